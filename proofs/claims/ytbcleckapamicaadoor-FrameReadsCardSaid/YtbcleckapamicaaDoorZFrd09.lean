/- A part of the proof of the law FrameReads: QFrx8, QFrx9, QFrx10, QFdx0, Onl, Fd0, Fd1, Fd2, Fd3. -/
import Derived.Test.YtbcleckapamicaaDoorZFrd02
import Derived.Test.YtbcleckapamicaaDoorZFrd08
import Derived.Test.YtbcleckapamicaaDoorZFrd06
import Derived.Test.YtbcleckapamicaaDoorZFrd05
import Derived.Test.YtbcleckapamicaaDoorZFrd03
import Derived.Test.YtbcleckapamicaaDoorProg
import Derived.Below
import Derived.Deep.Draws
import Derived.Deep.AppendLies
import Derived.Maps.AppendAt
import Derived.OwnWalk
import Derived.Laws.BytesArg
import Derived.Laws.MakeOwn
import Derived.Laws.OwnMore
import Derived.Deep.OwnRows
import Derived.Tactics
import Derived.Lib.ConvBytes
import Derived.Laws.Slices
import Derived.WalkKit
import Derived.KernelRfl
import Derived.RowKit3
import Derived.Deep.LoopGhost
import Derived.Deep.QuietTactic
import Derived.BigQuiet
import Derived.WideLaws
import Derived.Deep.DeepCutAuto
import Derived.Deep.CutBlock
import Derived.Deep.RegionHeld3
import Derived.Laws.Rows
import Derived.Lib.AppendStr
import Derived.ArgAppend
import Derived.Laws.IdiomCopy
import Derived.OrdersHeld
import Derived.Laws.BitsLemmas
import Derived.RowKit
import Derived.Test.YtbcleckapamicaaDoorZFrd00
import Derived.Test.YtbcleckapamicaaDoorZFrd01
import Derived.RangeFuncBox
import Derived.Maps.OwnSet
import Derived.StillTailTactics
import Derived.WalkLawsBesides
import Derived.Laws.CopyRow
import Derived.Deep.WholeRow
namespace Go.Proofs.YtbcleckapamicaaDoor.QFr
open Go.RowKit Go.Proofs.YtbcleckapamicaaDoorW.PrintWords Go.Proofs.YtbcleckapamicaaDoorW.PrintLast Go.Proofs.YtbcleckapamicaaDoorW.PrintMore
attribute [local go_sem] max2_int min2_int max_two min_two max_three min_three max_four min_four
set_option linter.unusedVariables false
set_option linter.unusedSimpArgs false
end Go.Proofs.YtbcleckapamicaaDoor.QFr
namespace Go.Proofs.YtbcleckapamicaaDoor.QFr
open Go.RowKit Go.Proofs.YtbcleckapamicaaDoorW.PrintWords Go.Proofs.YtbcleckapamicaaDoorW.PrintLast Go.Proofs.YtbcleckapamicaaDoorW.PrintMore
attribute [local go_sem] max2_int min2_int max_two min_two max_three min_three max_four min_four
set_option linter.unusedVariables false
set_option linter.unusedSimpArgs false
open Go.Proofs.YtbcleckapamicaaDoor.Gv (TB TB.below TB.alloc TB.drew TB.drewN)
set_option hygiene false
local macro "pp150_" : term => `((if bt326.2 = 0 then ((shibbolethlaw06_same.f k bt326.1 (([2, 7, 1, 0, 0, 2] : List Int))).bind fun t333 => (some t333)) else (some false)))
local macro "pp151_" : term => `((by first | (with_reducible assumption) | assumption))
local macro "lp150_" : tactic => `(tactic| (exact ⟨by first | rfl | (simp; done) | (simp [*]; done), by repeat (first | exact Drawn0.refl _ | apply Drawn0.step)⟩))
set_option hygiene true
def shibbolethlaw06_same.l0 : Nat → List Int → List Int → Int → Option (Bool)
 | 0, _, _, _ => none
 | k + 1, x0, x1, x5 => if x5 < (x0.length : Int) then (if 0 ≤ x5 then (if x5 < (x1.length : Int) then (if (rd x0 x5) = (rd x1 x5) then (shibbolethlaw06_same.l0 k x0 x1 (wrap64 (x5 + 1))) else (some false)) else (none)) else (none)) else (some true)
def shibbolethlaw06_same.f (k : Nat) (l0 : List Int) (l1 : List Int) : Option (Bool) := if (l0.length : Int) = (l1.length : Int) then (shibbolethlaw06_same.l0 k l0 l1 0) else (some false)
theorem shibbolethlaw06_same.mono_l : ∀ k, (∀ y0 y1 y2, LeO (shibbolethlaw06_same.l0 k y0 y1 y2) (shibbolethlaw06_same.l0 (k + 1) y0 y1 y2))
 | 0 => fun _ _ _ r h => by simp [shibbolethlaw06_same.l0] at h
 | k + 1 => by
  have ih0 := shibbolethlaw06_same.mono_l k
  ·intro y0 y1 y2
   unfold shibbolethlaw06_same.l0
   repeat' first
   | (with_reducible exact ih0 _ _ _)
   | (with_reducible exact LeO.refl _)
   | (with_reducible exact LeO.none _)
   | (with_reducible refine LeO.ite ?_ ?_)
   | (with_reducible refine LeO.bind ?_ (fun _ => ?_))
   | exact ih0 _ _ _
   | exact LeO.none _
   | refine LeO.ite ?_ ?_
   | refine LeO.bind ?_ (fun _ => ?_)
theorem shibbolethlaw06_same.mono : ∀ a0 a1 k, LeO (shibbolethlaw06_same.f k a0 a1) (shibbolethlaw06_same.f (k + 1) a0 a1) := by
 intro a0 a1 k
 have ih0 := shibbolethlaw06_same.mono_l k
 unfold shibbolethlaw06_same.f
 repeat' first
   | (with_reducible exact ih0 _ _ _)
   | (with_reducible exact LeO.refl _)
   | (with_reducible exact LeO.none _)
   | (with_reducible refine LeO.ite ?_ ?_)
   | (with_reducible refine LeO.bind ?_ (fun _ => ?_))
   | exact ih0 _ _ _
   | exact LeO.none _
   | refine LeO.ite ?_ ?_
   | refine LeO.bind ?_ (fun _ => ?_)
set_option maxHeartbeats 8000000 in
set_option maxRecDepth 100000 in
theorem shibbolethlaw06_same.calls (k : Nat) (A0 : Option Addr) (c0 : Nat) (l0 : List Int) (A1 : Option Addr) (c1 : Nat) (l1 : List Int) (r : Bool) (w : World) (hr0 : Kd.C (Kd.int .u8) w A0 l0.length l0) (hc0 : l0.length ≤ c0) (hr1 : Kd.C (Kd.int .u8) w A1 l1.length l1) (hc1 : l1.length ≤ c1) (h : shibbolethlaw06_same.f k l0 l1 = some r) :
  Calls Tryd.prog 48 #[.slice A0 l0.length c0, .slice A1 l1.length c1] w fun e w' => e = .returned (.bool r) ∧ Drawn0 w w' := by
 have HR0 := Aside0.mk hr0
 have HC0 := Aside0.mk hc0
 clear hr0 hc0
 have HR1 := Aside0.mk hr1
 have HC1 := Aside0.mk hc1
 clear hr1 hc1
 have H : (if (l0.length : Int) = (l1.length : Int) then (shibbolethlaw06_same.l0 k l0 l1 0) else (some false)) = some r := h
 clear h
 by_cases c3 : (l0.length : Int) = (l1.length : Int)
 ·rw [if_pos c3] at H
  have c3b0 : ((l0.length : Int) == (l1.length : Int)) = true := beq_iff_eq.mpr c3
  have c3b1 : ((l0.length : Int) != (l1.length : Int)) = false := bne_eq_false_iff_eq.mpr c3
  have c3b2 : (l0.length == l1.length) = true := by first | simpa using c3 | (simp at c3 ⊢; omega)
  clear c3
  have H' := Aside0.mk H
  clear H
  go_enter Tryd.func48, Tryd.ntmps48
  go_wp2
  repeat (go_quiet (fail); try go_wp2)
  go_loopg [5] k (fun kq v5 w' => ∃ (x5_1 : Int), v5 = .int .i64 x5_1 ∧ Aside0 (shibbolethlaw06_same.l0 kq l0 l1 x5_1 = some r) ∧ Aside0 (kq ≤ k) ∧ Drawn0 w w')
  case atStart => exact ⟨(0), (by first | rfl | (simp; done) | (simp [*]; done)), H', ⟨Nat.le_refl _⟩, by repeat (first | exact Drawn0.refl _ | apply Drawn0.step)⟩
  case round =>
   clear H'
   try clear c1
   try clear p2
   try clear c3
   try clear c3b0
   try clear c3b1
   try clear c3b2
   obtain ⟨x5_1, rfl, HA, HK1, ⟨m1, rfl⟩⟩ := hrel
   cases gk with
   | zero => exact absurd HA.out (by simp [shibbolethlaw06_same.l0])
   | succ k1 =>
    have H := HA.out
    clear HA
    simp only [shibbolethlaw06_same.l0] at H
    by_cases c4 : x5_1 < (l0.length : Int)
    ·rw [if_pos c4] at H
     have c4b0 : decide (x5_1 < (l0.length : Int)) = true := decide_eq_true c4
     clear c4
     by_cases c5 : 0 ≤ x5_1
     ·rw [if_pos c5] at H
      have c5b0 : decide (0 ≤ x5_1) = true := decide_eq_true c5
      clear c5
      by_cases c6 : x5_1 < (l1.length : Int)
      ·rw [if_pos c6] at H
       have c6b0 : decide (x5_1 < (l1.length : Int)) = true := decide_eq_true c6
       clear c6
       by_cases c7 : (rd l0 x5_1) = (rd l1 x5_1)
       ·rw [if_pos c7] at H
        have c7b0 : ((rd l0 x5_1) == (rd l1 x5_1)) = true := beq_iff_eq.mpr c7
        have c7b1 : ((rd l0 x5_1) != (rd l1 x5_1)) = false := bne_eq_false_iff_eq.mpr c7
        clear c7
        have H' := Aside0.mk H
        clear H
        have p318 : 0 ≤ (x5_1 : Int) := of_decide_eq_true (pp151_)
        have q318 : x5_1 < (l0.length : Int) := of_decide_eq_true (pp151_)
        obtain ⟨ad318, e318, hx318_0⟩ := Kd.at_int HR0.out x5_1 p318 q318
        (try simp only [Int.reduceToNat] at hx318_0)
        cases e318
        replace p318 := eq_true p318
        replace q318 := eq_true q318
        have p319 : 0 ≤ (x5_1 : Int) := of_decide_eq_true (pp151_)
        have q319 : x5_1 < (l1.length : Int) := of_decide_eq_true (pp151_)
        obtain ⟨ad319, e319, hx319_0⟩ := Kd.at_int HR1.out x5_1 p319 q319
        (try simp only [Int.reduceToNat] at hx319_0)
        cases e319
        replace p319 := eq_true p319
        replace q319 := eq_true q319
        go_wp2
        repeat (go_quiet (fail); try go_wp2)
        go_roundg k1
        case measure => have := HK1.out; omega
        case rel => exact ⟨(wrap64 (x5_1 + 1)), (by first | rfl | (simp; done) | (simp [*]; done)), H', ⟨by have := HK1.out; omega⟩, by repeat (first | exact Drawn0.refl _ | apply Drawn0.step)⟩
       ·rw [if_neg c7] at H
        have c7b0 : ((rd l0 x5_1) == (rd l1 x5_1)) = false := beq_eq_false_iff_ne.mpr c7
        have c7b1 : ((rd l0 x5_1) != (rd l1 x5_1)) = true := bne_iff_ne.mpr c7
        obtain rfl := Option.some.inj H
        have p318 : 0 ≤ (x5_1 : Int) := of_decide_eq_true (pp151_)
        have q318 : x5_1 < (l0.length : Int) := of_decide_eq_true (pp151_)
        obtain ⟨ad318, e318, hx318_0⟩ := Kd.at_int HR0.out x5_1 p318 q318
        (try simp only [Int.reduceToNat] at hx318_0)
        cases e318
        replace p318 := eq_true p318
        replace q318 := eq_true q318
        have p319 : 0 ≤ (x5_1 : Int) := of_decide_eq_true (pp151_)
        have q319 : x5_1 < (l1.length : Int) := of_decide_eq_true (pp151_)
        obtain ⟨ad319, e319, hx319_0⟩ := Kd.at_int HR1.out x5_1 p319 q319
        (try simp only [Int.reduceToNat] at hx319_0)
        cases e319
        replace p319 := eq_true p319
        replace q319 := eq_true q319
        go_wp2
        repeat (go_quiet (fail); try go_wp2)
        go_ret
        lp150_
      ·rw [if_neg c6] at H
       exact absurd H (by simp)
     ·rw [if_neg c5] at H
      exact absurd H (by simp)
    ·rw [if_neg c4] at H
     have c4b0 : decide (x5_1 < (l0.length : Int)) = false := decide_eq_false c4
     clear c4
     obtain rfl := Option.some.inj H
     go_wp2
     repeat (go_quiet (fail); try go_wp2)
     go_ret
     lp150_
 ·rw [if_neg c3] at H
  have c3b0 : ((l0.length : Int) == (l1.length : Int)) = false := beq_eq_false_iff_ne.mpr c3
  have c3b1 : ((l0.length : Int) != (l1.length : Int)) = true := bne_iff_ne.mpr c3
  have c3b2 : (l0.length == l1.length) = false := by first | simpa using c3 | (simp at c3 ⊢; omega)
  obtain rfl := Option.some.inj H
  go_enter Tryd.func48, Tryd.ntmps48
  go_wp2
  repeat (go_quiet (fail); try go_wp2)
  go_ret
  lp150_
def shibbolethlaw06_awake.f (k : Nat)  : Option (Bool) := (frame_Write.f k (([(⟨2, 0, (([(⟨7, 7⟩ : S103), (⟨3, 5⟩ : S103)] : List (S103))), 0, ([] : List Int), 0⟩ : S58)] : List (S58)))).bind fun bt326 => (pp150_)
theorem shibbolethlaw06_awake.mono : ∀ k, LeO (shibbolethlaw06_awake.f k ) (shibbolethlaw06_awake.f (k + 1) ) := by
 intro  k
 unfold shibbolethlaw06_awake.f
 repeat' first
   | (with_reducible exact frame_Write.mono _ _)
   | (with_reducible exact shibbolethlaw06_same.mono _ _ _)
   | (with_reducible exact LeO.refl _)
   | (with_reducible exact LeO.none _)
   | (with_reducible refine LeO.ite ?_ ?_)
   | (with_reducible refine LeO.bind ?_ (fun _ => ?_))
   | exact frame_Write.mono _ _
   | exact shibbolethlaw06_same.mono _ _ _
   | exact LeO.none _
   | refine LeO.ite ?_ ?_
   | refine LeO.bind ?_ (fun _ => ?_)
set_option maxHeartbeats 8000000 in
set_option maxRecDepth 100000 in
theorem shibbolethlaw06_awake.calls (k : Nat)  (r : Bool) (w : World) (ht : TB w) (h : shibbolethlaw06_awake.f k  = some r) :
  Calls Tryd.prog 49 #[] w fun e w' => e = .returned (.bool r) ∧ Below w.heap.size w w' := by
 have HT := Aside0.mk ht
 clear ht
 have hu103 := Tryd.underlying103
 have hu58 := Tryd.underlying58
 have HB := Aside0.mk (Below.refl w.heap.size w)
 have H : ((frame_Write.f k (([(⟨2, 0, (([(⟨7, 7⟩ : S103), (⟨3, 5⟩ : S103)] : List (S103))), 0, ([] : List Int), 0⟩ : S58)] : List (S58)))).bind fun bt326 => (pp150_)) = some r := h
 clear h
 obtain ⟨y320, hy320⟩ : ∃ y_ : List (S103), y_ = (([(⟨7, 7⟩ : S103), (⟨3, 5⟩ : S103)] : List (S103))) := ⟨_, rfl⟩
 replace H : ((frame_Write.f k (([(⟨2, 0, y320, 0, ([] : List Int), 0⟩ : S58)] : List (S58)))).bind fun bt326 => (pp150_)) = some r := by first | (rw [hy320]; with_reducible exact H) | (have H2_ := (Option.bind_some _ _).symm.trans H; rw [hy320]; with_reducible exact H2_) | (have H2_ := (Option.bind_some _ _).symm.trans H; with_reducible exact H2_) | with_reducible exact H | (rw [hy320]; exact H) | exact H
 have Ny320 := Aside0.mk hy320
 clear hy320
 obtain ⟨y323, hy323⟩ : ∃ y_ : List (S58), y_ = (([(⟨2, 0, y320, 0, ([] : List Int), 0⟩ : S58)] : List (S58))) := ⟨_, rfl⟩
 replace H : ((frame_Write.f k y323).bind fun bt326 => (pp150_)) = some r := by first | (rw [hy323]; with_reducible exact H) | (have H2_ := (Option.bind_some _ _).symm.trans H; rw [hy323]; with_reducible exact H2_) | (have H2_ := (Option.bind_some _ _).symm.trans H; with_reducible exact H2_) | with_reducible exact H | (rw [hy323]; exact H) | exact H
 have Ny323 := Aside0.mk hy323
 clear hy323
 replace H := Option.bind_eq_some_iff.mp H
 obtain ⟨⟨t326, t327⟩, A10, H⟩ := H
 replace H : (if t327 = 0 then ((shibbolethlaw06_same.f k t326 (([2, 7, 1, 0, 0, 2] : List Int))).bind fun t333 => (some t333)) else (some false)) = some r := H
 have A1 := Aside0.mk A10
 clear A10
 by_cases c2 : t327 = 0
 ·rw [if_pos c2] at H
  have c2b0 : (t327 == 0) = true := beq_iff_eq.mpr c2
  have c2b1 : (t327 != 0) = false := bne_eq_false_iff_eq.mpr c2
  clear c2
  obtain ⟨y330, hy330⟩ : ∃ y_ : List Int, y_ = (([2, 7, 1, 0, 0, 2] : List Int)) := ⟨_, rfl⟩
  replace H : ((shibbolethlaw06_same.f k t326 y330).bind fun t333 => (some t333)) = some r := by first | (rw [hy330]; with_reducible exact H) | (have H2_ := (Option.bind_some _ _).symm.trans H; rw [hy330]; with_reducible exact H2_) | (have H2_ := (Option.bind_some _ _).symm.trans H; with_reducible exact H2_) | with_reducible exact H | (rw [hy330]; exact H) | exact H
  have Ny330 := Aside0.mk hy330
  clear hy330
  replace H := Option.bind_eq_some_iff.mp H
  obtain ⟨t333, A30, H⟩ := H
  replace H : (some t333) = some r := H
  have A3 := Aside0.mk A30
  clear A30
  obtain rfl := Option.some.inj H
  go_enter Tryd.func49, Tryd.ntmps49
  go_wp2_with (first | ((with_reducible refine gate_dst (N := 6) rfl ?_); (try (refine gate_guard (by rfl) ?_; dsimp only)); refine Kd.R_lit k103 _ 103 ?hg (N := 6) ?hd (xs := ([(⟨7, 7⟩ : S103), (⟨3, 5⟩ : S103)] : List (S103))) (inner := [.int .i64 7, .int .i64 7, .int .i64 3, .int .i64 5]) (ok := fun _ => True) (okp := fun _ => True) ?hr ?hp (fun _ hk => hk) trivial (Below.refl _ _) (Nat.le_refl _) (by simp) ?_; (case hd => rfl); (case hg => rfl); (case hr => first | (go_simp; done) | (go_simp; rfl)); (case hp => exact (Reps.c2 (show Kd.M k103 _ _ _ (⟨7, 7⟩ : S103) [.int .i64 7, .int .i64 7] from (k103_mkM _ _ _ (⟨7, 7⟩ : S103) )) (Reps.c2 (show Kd.M k103 _ _ _ (⟨3, 5⟩ : S103) [.int .i64 3, .int .i64 5] from (k103_mkM _ _ _ (⟨3, 5⟩ : S103) )) (Reps.none _ _)))); intro v321 w4 ho5 hb hg_ hnew_; clear hg_ hnew_; (first | rw [← Ny320.out] at ho5 | (simp only [Int.reduceToNat] at ho5; rw [← Ny320.out] at ho5)); have n0_ := Aside0.mk (Kd.R_lower ho5 (below_size (by qc0_))); have n1_ := Aside0.mk (below_step (by qc0_) hb); clear HB; have HO322 := n0_; have HB := n1_; clear n0_ n1_; clear hb ho5; obtain ⟨Ao6, co6, eo6⟩ := Kd.R_slice HO322.out; subst eo6) | ((with_reducible refine gate_dst (N := 8) rfl ?_); (try (refine gate_guard (by rfl) ?_; dsimp only)); refine Kd.N_lit k58 _ 58 ?hg (N' := 8) ?hd (xs := ([(⟨2, 0, y320, 0, ([] : List Int), 0⟩ : S58)] : List (S58))) (inner := [.int .i64 2, .int .i64 0, .slice Ao6 y320.length co6, .int .i64 0, .slice none 0 0, .int .i64 0]) (ok := (fun _ => True)) (okp := (fun _ => True)) ?hr ?hp (fun _ hk => hk) ((show ∀ k_, w4.heap.size ≤ k_ → (fun _ => True) k_ from fun k_ hk => trivial) _ (Nat.le_refl _)) (Below.refl _ _) (Nat.le_refl _) (by simp) ?_; (case hd => rfl); (case hg => rfl); (case hr => first | (go_simp; done) | (go_simp; rfl)); (case hp => exact (Reps.c6 (show Kd.FK k58 _ _ (⟨2, 0, y320, 0, ([] : List Int), 0⟩ : S58) [.int .i64 2, .int .i64 0, .slice Ao6 y320.length co6, .int .i64 0, .slice none 0 0, .int .i64 0] from (k58_mkF _ _ (⟨2, 0, y320, 0, ([] : List Int), 0⟩ : S58) (Kd.R_reads' (Kd.R_mono (ok' := (fun _ => True)) (HO322.out) (fun k_ hk => trivial))).2.1 (Kd.R_F (Kd.R_mono (ok' := (fun _ => True)) (HO322.out) (fun k_ hk => trivial))) (Nat.le_refl _) (Kd.F_nil _ _ _))) (Reps.none _ _))); intro v324 w7 ho8 hb hg_ hnew_; clear hg_ hnew_; (first | rw [← Ny323.out] at ho8 | (simp only [Int.reduceToNat] at ho8; rw [← Ny323.out] at ho8)); have n0_ := Aside0.mk (Kd.N_lower ho8 (below_size (by qc0_))); have n1_ := Aside0.mk (below_step (by qc0_) hb); clear HB; clear HO322; have HO325 := n0_; have HB := n1_; clear n0_ n1_; clear hb ho8; obtain ⟨Ao9, co9, eo9⟩ := Kd.N_slice HO325.out; subst eo9) | ((with_reducible refine gate_callee (f := 45) rfl ?_); refine goesL_ (some 9) rfl rfl Tryd.func45 (by kernel_rfl) rfl #[.slice Ao9 y323.length co9] rfl (by (try simp only [List.map_toArray, List.map_cons, List.map_nil]); first | done | rfl | (simp only [List.length_drop, List.length_take]; rfl)) ?_; (with_reducible refine (frame_Write.calls k _ _ y323 t326 t327 _ ?side1 ?side2 ?sideT A1.out).mono ?_); (case sideT => repeat (first | exact HT.out | exact TB.below HT.out HB.out | exact TB.below HT.out HBW.out | (with_reducible refine TB.alloc ?_ _) | (with_reducible refine TB.drewN ?_ _) | (with_reducible refine TB.drew ?_))); (case side1 => repeat (first | exact (Kd.N_reads' HO325.out).2.2 | (with_reducible refine Kd.C_alloc ?_ _) | (with_reducible refine Kd.C_drewN ?_ _) | (with_reducible refine Kd.C_drew ?_))); (case side2 => exact (Kd.N_reads' HO325.out).2.1); rintro e w10 ⟨v328, rfl, ho0, hb⟩; refine ⟨_, rfl, ?_⟩; have n0_ := Aside0.mk (Kd.N_elder' (by qN_; exact HO325.out) (Kd.R_base ho0) hb); have n1_ := Aside0.mk (Kd.R_lower ho0 (below_size (by qc0_))); have n2_ := Aside0.mk (below_step (by qc0_) hb); clear HO325; clear HB; have HO325 := n0_; have HO329 := n1_; have HB := n2_; clear n0_ n1_ n2_; (try clear hb); (try clear hb2); (try clear hk); (try clear hi); (try clear ho0)) | ((with_reducible refine gate_dst (N := 16) rfl ?_); (try (refine gate_guard (by rfl) ?_; dsimp only)); refine Kd.R_lit (Kd.int .u8) _ 5 ?hg (N := 16) ?hd (xs := ([2, 7, 1, 0, 0, 2] : List Int)) (inner := [.int .u8 2, .int .u8 7, .int .u8 1, .int .u8 0, .int .u8 0, .int .u8 2]) (ok := fun _ => True) (okp := fun _ => True) ?hr ?hp (fun _ hk => hk) trivial (Below.refl _ _) (Nat.le_refl _) (by simp) ?_; (case hd => rfl); (case hg => rfl); (case hr => first | (go_simp; done) | (go_simp; rfl)); (case hp => exact (Reps.one (show Kd.M (Kd.int .u8) _ _ _ 2 [.int .u8 2] from rfl) (Reps.one (show Kd.M (Kd.int .u8) _ _ _ 7 [.int .u8 7] from rfl) (Reps.one (show Kd.M (Kd.int .u8) _ _ _ 1 [.int .u8 1] from rfl) (Reps.one (show Kd.M (Kd.int .u8) _ _ _ 0 [.int .u8 0] from rfl) (Reps.one (show Kd.M (Kd.int .u8) _ _ _ 0 [.int .u8 0] from rfl) (Reps.one (show Kd.M (Kd.int .u8) _ _ _ 2 [.int .u8 2] from rfl) (Reps.none _ _)))))))); intro v331 w11 ho12 hb hg_ hnew_; clear hg_ hnew_; (first | rw [← Ny330.out] at ho12 | (simp only [Int.reduceToNat] at ho12; rw [← Ny330.out] at ho12)); have n0_ := Aside0.mk (Kd.N_elder' (by qN_; exact HO325.out) (Kd.R_base ho12) hb); have n1_ := Aside0.mk (Kd.R_elder' (by qR_; exact HO329.out) (Kd.R_base ho12) hb); have n2_ := Aside0.mk (Kd.R_lower (Kd.R_new' ho12 (Kd.R_lt (by qR_; exact HO329.out))) (below_size (by qc0_))); have n3_ := Aside0.mk (below_step (by qc0_) hb); clear HO325; clear HO329; clear HB; have HO325 := n0_; have HO329 := n1_; have HO332 := n2_; have HB := n3_; clear n0_ n1_ n2_ n3_; clear hb ho12; obtain ⟨Ao13, co13, eo13⟩ := Kd.R_slice HO329.out; subst eo13; obtain ⟨Ao14, co14, eo14⟩ := Kd.R_slice HO332.out; subst eo14) | (go_at_call 48; (with_reducible refine (shibbolethlaw06_same.calls k _ _ t326 _ _ y330 t333 _ ?side1 ?side2 ?side3 ?side4 A3.out).mono ?_); (case side1 => repeat (first | exact (Kd.R_reads' HO329.out).2.2 | (with_reducible refine Kd.C_alloc ?_ _) | (with_reducible refine Kd.C_drewN ?_ _) | (with_reducible refine Kd.C_drew ?_))); (case side2 => exact (Kd.R_reads' HO329.out).2.1); (case side3 => repeat (first | exact (Kd.R_reads' HO332.out).2.2 | (with_reducible refine Kd.C_alloc ?_ _) | (with_reducible refine Kd.C_drewN ?_ _) | (with_reducible refine Kd.C_drew ?_))); (case side4 => exact (Kd.R_reads' HO332.out).2.1); rintro e w' ⟨rfl, ⟨nd, rfl⟩⟩))
  go_ret
  exact ⟨by first | rfl | (simp [errW_none, errW_some] <;> rfl) | (simp [*, errW_none, errW_some] <;> rfl), by qc0_⟩
 ·rw [if_neg c2] at H
  have c2b0 : (t327 == 0) = false := beq_eq_false_iff_ne.mpr c2
  have c2b1 : (t327 != 0) = true := bne_iff_ne.mpr c2
  obtain rfl := Option.some.inj H
  go_enter Tryd.func49, Tryd.ntmps49
  go_wp2_with (first | ((with_reducible refine gate_dst (N := 6) rfl ?_); (try (refine gate_guard (by rfl) ?_; dsimp only)); refine Kd.R_lit k103 _ 103 ?hg (N := 6) ?hd (xs := ([(⟨7, 7⟩ : S103), (⟨3, 5⟩ : S103)] : List (S103))) (inner := [.int .i64 7, .int .i64 7, .int .i64 3, .int .i64 5]) (ok := fun _ => True) (okp := fun _ => True) ?hr ?hp (fun _ hk => hk) trivial (Below.refl _ _) (Nat.le_refl _) (by simp) ?_; (case hd => rfl); (case hg => rfl); (case hr => first | (go_simp; done) | (go_simp; rfl)); (case hp => exact (Reps.c2 (show Kd.M k103 _ _ _ (⟨7, 7⟩ : S103) [.int .i64 7, .int .i64 7] from (k103_mkM _ _ _ (⟨7, 7⟩ : S103) )) (Reps.c2 (show Kd.M k103 _ _ _ (⟨3, 5⟩ : S103) [.int .i64 3, .int .i64 5] from (k103_mkM _ _ _ (⟨3, 5⟩ : S103) )) (Reps.none _ _)))); intro v321 w15 ho16 hb hg_ hnew_; clear hg_ hnew_; (first | rw [← Ny320.out] at ho16 | (simp only [Int.reduceToNat] at ho16; rw [← Ny320.out] at ho16)); have n0_ := Aside0.mk (Kd.R_lower ho16 (below_size (by qc0_))); have n1_ := Aside0.mk (below_step (by qc0_) hb); clear HB; have HO322 := n0_; have HB := n1_; clear n0_ n1_; clear hb ho16; obtain ⟨Ao17, co17, eo17⟩ := Kd.R_slice HO322.out; subst eo17) | ((with_reducible refine gate_dst (N := 8) rfl ?_); (try (refine gate_guard (by rfl) ?_; dsimp only)); refine Kd.N_lit k58 _ 58 ?hg (N' := 8) ?hd (xs := ([(⟨2, 0, y320, 0, ([] : List Int), 0⟩ : S58)] : List (S58))) (inner := [.int .i64 2, .int .i64 0, .slice Ao17 y320.length co17, .int .i64 0, .slice none 0 0, .int .i64 0]) (ok := (fun _ => True)) (okp := (fun _ => True)) ?hr ?hp (fun _ hk => hk) ((show ∀ k_, w15.heap.size ≤ k_ → (fun _ => True) k_ from fun k_ hk => trivial) _ (Nat.le_refl _)) (Below.refl _ _) (Nat.le_refl _) (by simp) ?_; (case hd => rfl); (case hg => rfl); (case hr => first | (go_simp; done) | (go_simp; rfl)); (case hp => exact (Reps.c6 (show Kd.FK k58 _ _ (⟨2, 0, y320, 0, ([] : List Int), 0⟩ : S58) [.int .i64 2, .int .i64 0, .slice Ao17 y320.length co17, .int .i64 0, .slice none 0 0, .int .i64 0] from (k58_mkF _ _ (⟨2, 0, y320, 0, ([] : List Int), 0⟩ : S58) (Kd.R_reads' (Kd.R_mono (ok' := (fun _ => True)) (HO322.out) (fun k_ hk => trivial))).2.1 (Kd.R_F (Kd.R_mono (ok' := (fun _ => True)) (HO322.out) (fun k_ hk => trivial))) (Nat.le_refl _) (Kd.F_nil _ _ _))) (Reps.none _ _))); intro v324 w18 ho19 hb hg_ hnew_; clear hg_ hnew_; (first | rw [← Ny323.out] at ho19 | (simp only [Int.reduceToNat] at ho19; rw [← Ny323.out] at ho19)); have n0_ := Aside0.mk (Kd.N_lower ho19 (below_size (by qc0_))); have n1_ := Aside0.mk (below_step (by qc0_) hb); clear HB; clear HO322; have HO325 := n0_; have HB := n1_; clear n0_ n1_; clear hb ho19; obtain ⟨Ao20, co20, eo20⟩ := Kd.N_slice HO325.out; subst eo20) | ((with_reducible refine gate_callee (f := 45) rfl ?_); refine goesL_ (some 9) rfl rfl Tryd.func45 (by kernel_rfl) rfl #[.slice Ao20 y323.length co20] rfl (by (try simp only [List.map_toArray, List.map_cons, List.map_nil]); first | done | rfl | (simp only [List.length_drop, List.length_take]; rfl)) ?_; (with_reducible refine (frame_Write.calls k _ _ y323 t326 t327 _ ?side1 ?side2 ?sideT A1.out).mono ?_); (case sideT => repeat (first | exact HT.out | exact TB.below HT.out HB.out | exact TB.below HT.out HBW.out | (with_reducible refine TB.alloc ?_ _) | (with_reducible refine TB.drewN ?_ _) | (with_reducible refine TB.drew ?_))); (case side1 => repeat (first | exact (Kd.N_reads' HO325.out).2.2 | (with_reducible refine Kd.C_alloc ?_ _) | (with_reducible refine Kd.C_drewN ?_ _) | (with_reducible refine Kd.C_drew ?_))); (case side2 => exact (Kd.N_reads' HO325.out).2.1); rintro e w21 ⟨v328, rfl, ho0, hb⟩; refine ⟨_, rfl, ?_⟩; have n0_ := Aside0.mk (Kd.N_elder' (by qN_; exact HO325.out) (Kd.R_base ho0) hb); have n1_ := Aside0.mk (Kd.R_lower ho0 (below_size (by qc0_))); have n2_ := Aside0.mk (below_step (by qc0_) hb); clear HO325; clear HB; have HO325 := n0_; have HO329 := n1_; have HB := n2_; clear n0_ n1_ n2_; (try clear hb); (try clear hb2); (try clear hk); (try clear hi); (try clear ho0)))
  go_ret
  exact ⟨by first | rfl | (simp [errW_none, errW_some] <;> rfl) | (simp [*, errW_none, errW_some] <;> rfl), by qc0_⟩
end Go.Proofs.YtbcleckapamicaaDoor.QFr
namespace Go.Proofs.YtbcleckapamicaaDoor.QFr
open Go.RowKit Go.Proofs.YtbcleckapamicaaDoorW.PrintWords Go.Proofs.YtbcleckapamicaaDoorW.PrintLast Go.Proofs.YtbcleckapamicaaDoorW.PrintMore
attribute [local go_sem] max2_int min2_int max_two min_two max_three min_three max_four min_four
set_option linter.unusedVariables false
set_option linter.unusedSimpArgs false
end Go.Proofs.YtbcleckapamicaaDoor.QFr
namespace Go.Proofs.YtbcleckapamicaaDoor.QFd
open Go.RowKit Go.Proofs.YtbcleckapamicaaDoorW.PrintWords Go.Proofs.YtbcleckapamicaaDoorW.PrintLast Go.Proofs.YtbcleckapamicaaDoorW.PrintMore
attribute [local go_sem] max2_int min2_int max_two min_two max_three min_three max_four min_four
set_option linter.unusedVariables false
set_option linter.unusedSimpArgs false
def errW : Option Int → Value
 | none => .nilIface
 | some c => .iface 0 (.int .i64 c)
theorem errW_none : errW none = .nilIface := rfl
theorem errW_some (c : Int) : errW (some c) = .iface 0 (.int .i64 c) := rfl
theorem info5 : (Tryd.prog.info? 5).map (fun i => (i.zero, i.size, i.bytes)) = some (some (.int .u8 0), 1, 1) := by kernel_rfl
end Go.Proofs.YtbcleckapamicaaDoor.QFd
namespace Go.Proofs.YtbcleckapamicaaDoor.Onl
open Go Go.RowKit Go.Proofs.YtbcleckapamicaaDoorW.PrintWords
set_option linter.unusedVariables false
structure Only (p : Nat → Prop) (w w' : World) : Prop where
  os : w'.os = w.os
  tape : w'.tape = w.tape
  output : w'.output = w.output
  size : w.heap.size ≤ w'.heap.size
  block : ∀ k, k < w.heap.size → ¬ p k → w'.heap[k]? = w.heap[k]?
theorem Only.refl (p : Nat → Prop) (w : World) : Only p w w := ⟨rfl, rfl, rfl, Nat.le_refl _, fun _ _ _ => rfl⟩
theorem Only.trans {p : Nat → Prop} {a b c : World} (h : Only p a b) (k : Only p b c) : Only p a c :=
  ⟨k.os.trans h.os, k.tape.trans h.tape, k.output.trans h.output, Nat.le_trans h.size k.size, fun i hi hp => (k.block i (Nat.lt_of_lt_of_le hi h.size) hp).trans (h.block i hi hp)⟩
theorem Only.imp {p q : Nat → Prop} {w w' : World} (h : Only p w w') (hq : ∀ k, k < w.heap.size → p k → q k) : Only q w w' :=
  ⟨h.os, h.tape, h.output, h.size, fun k hk hn => h.block k hk (fun hp => hn (hq k hk hp))⟩
theorem Only.alloc {p : Nat → Prop} {a w : World} (h : Only p a w) (o : Obj) : Only p a (w.alloc o) :=
  ⟨h.os, h.tape, h.output, Nat.le_trans h.size (by simp), fun k hk hp => (Below.heap_alloc _ _ _ (Nat.lt_of_lt_of_le hk h.size)).trans (h.block k hk hp)⟩
theorem Only.drew {p : Nat → Prop} {a w : World} (h : Only p a w) : Only p a w.drew := ⟨h.os, h.tape, h.output, h.size, h.block⟩
theorem Only.drewN {p : Nat → Prop} {a w : World} (h : Only p a w) (n : Nat) : Only p a (w.drewN n) := ⟨h.os, h.tape, h.output, h.size, h.block⟩
theorem Only.setCell {p : Nat → Prop} {a w : World} (h : Only p a w) {ad : Addr} (hp : p ad.block) (u : Value) : Only p a (w.setCell ad u) :=
  ⟨h.os, h.tape, h.output, Nat.le_trans h.size (by simp [World.setCell]), fun k hk hn => (Below.heap_setCell _ _ _ _ (fun e => hn (by rw [e]; exact hp))).trans (h.block k hk hn)⟩
theorem Only.setNew {p : Nat → Prop} {a w : World} (h : Only p a w) {ad : Addr} (hp : a.heap.size ≤ ad.block) (u : Value) : Only p a (w.setCell ad u) :=
  ⟨h.os, h.tape, h.output, Nat.le_trans h.size (by simp [World.setCell]), fun k hk hn => (Below.heap_setCell _ _ _ _ (by omega)).trans (h.block k hk hn)⟩
theorem Only.grown {p : Nat → Prop} {a w w' : World} {row : Option Nat} (h : Only p a w) (hg : w.grownBy w' row) (hr : ∀ k, row = some k → p k ∨ a.heap.size ≤ k) : Only p a w' :=
  ⟨hg.os.trans h.os, hg.tape.trans h.tape, hg.output.trans h.output, Nat.le_trans h.size hg.size, fun k hk hn => (hg.block k (Nat.lt_of_lt_of_le hk h.size) (fun e => (hr k e.symm).elim hn (by omega))).trans (h.block k hk hn)⟩
theorem Only.below {p : Nat → Prop} {w w' : World} {B : Nat} (h : Only p w w') (hB : B ≤ w.heap.size) (hp : ∀ k, p k → B ≤ k) : Below B w w' :=
  ⟨h.os, h.tape, h.output, h.size, fun k hk => h.block k (by omega) (fun e => by have := hp k e; omega)⟩
theorem Only.of_below {p : Nat → Prop} {w w' : World} (h : Below w.heap.size w w') : Only p w w' := ⟨h.os, h.tape, h.output, h.size, fun k hk _ => h.block k hk⟩
theorem Only.cell {p : Nat → Prop} {w w' : World} (h : Only p w w') {ad : Addr} (hn : ¬ p ad.block) {v : Value} (hc : w.cell? ad = some v) : w'.cell? ad = some v := by
  have hlt : ad.block < w.heap.size := World.block_lt_of_cell? w ad hc
  exact (World.cell?_of_block (h.block _ hlt hn)).trans hc
theorem Only.reads {p : Nat → Prop} {w w' : World} (h : Only p w w') {k : IntKind} {A : Option Addr} {xs : List Int} (hC : (Kd.int k).C w A xs.length xs) (hn : ∀ ad, A = some ad → ¬ p ad.block) : (Kd.int k).C w' A xs.length xs := by
  refine ⟨hC.1, hC.2.1, fun hl => ?_⟩
  obtain ⟨ad, e, hc⟩ := hC.2.2 hl
  refine ⟨ad, e, fun j q hj => ?_⟩
  obtain ⟨c, h1, h2, h3⟩ := hc j q hj
  exact ⟨c, h1, h2, fun i u hu => h.cell (ad := ad.add (j * (Kd.int k).sz + i)) (by have := hn ad e; unfold Addr.add; split <;> exact this) (h3 i u hu)⟩
end Go.Proofs.YtbcleckapamicaaDoor.Onl
namespace Go.Proofs.YtbcleckapamicaaDoor.Fd
open Go Go.RowKit Go.Proofs.YtbcleckapamicaaDoorW.PrintWords Go.Proofs.YtbcleckapamicaaDoorW.PrintLast Go.Proofs.YtbcleckapamicaaDoorW.PrintMore
open Go.Proofs.YtbcleckapamicaaDoor.Onl (Only)
open Go.Proofs.YtbcleckapamicaaDoor.Vn (vread vsize num)
open Go.Proofs.YtbcleckapamicaaDoor.Gv (varint_Read.f varint_Read.calls slices_Clone_byte_byte.f slices_Clone_byte_byte.calls)
set_option linter.unusedVariables false
set_option linter.unusedSimpArgs false
theorem info5 : (Tryd.prog.info? 5).map (fun i => (i.zero, i.size, i.bytes)) = some (some (.int .u8 0), 1, 1) := by kernel_rfl
def wr : List PanicEntry := [{ v := .iface 123 (.agg #[]), recovered := false }]
theorem need_ok (w : World) : Calls Tryd.prog 79 #[.bool true] w fun en w' => en = .returned (.tuple #[]) ∧ w = w' := by
  go_enter Tryd.func79, Tryd.ntmps79
  go_wp2
  go_end0
  exact ⟨rfl, rfl⟩
theorem need_bad (w : World) : Calls Tryd.prog 79 #[.bool false] w fun en w' => en = .panicked wr ∧ w = w' := by
  go_enter Tryd.func79, Tryd.ntmps79
  go_wp2
  exact ⟨rfl, rfl, rfl⟩
structure Rd (w0 w : World) (rb : Nat) (A : Option Addr) (c : Nat) (l : List Int) : Prop where
  c0 : w.cell? ⟨rb, 0, none⟩ = some (.slice A l.length c)
  f0 : w.frozen? ⟨rb, 0, none⟩ = false
  lo : w0.heap.size ≤ rb
  bl : Below w0.heap.size w0 w
  C : Kd.C (Kd.int .u8) w0 A l.length l
  lc : l.length ≤ c
  lm : l.length ≤ 100000
  by_ : ∀ x ∈ l, 0 ≤ x ∧ x ≤ 255
theorem Rd.lt {w0 w : World} {rb : Nat} {A : Option Addr} {c : Nat} {l : List Int} (h : Rd w0 w rb A c l) : rb < w.heap.size := World.block_lt_of_cell? w _ h.c0
theorem Rd.only {w0 w w' : World} {rb : Nat} {A : Option Addr} {c : Nat} {l : List Int} {p : Nat → Prop} (h : Rd w0 w rb A c l) (ho : Only p w w') (hn : ¬ p rb) (hp : ∀ k, p k → w0.heap.size ≤ k) : Rd w0 w' rb A c l :=
  ⟨ho.cell (ad := ⟨rb, 0, none⟩) hn h.c0, by
    have := h.f0
    unfold World.frozen? at this ⊢
    rw [ho.block rb h.lt hn]; exact this, h.lo, h.bl.trans (ho.below h.bl.size hp), h.C, h.lc, h.lm, h.by_⟩
theorem Rd.below {w0 w w' : World} {rb : Nat} {A : Option Addr} {c : Nat} {l : List Int} (h : Rd w0 w rb A c l) (hb : Below w.heap.size w w') : Rd w0 w' rb A c l :=
  h.only (p := fun _ => False) (Only.of_below hb) (fun q => q) (fun _ q => q.elim)
theorem Rd.set {w0 w : World} {rb : Nat} {A : Option Addr} {c : Nat} {l : List Int} (h : Rd w0 w rb A c l) {A' : Option Addr} {c' : Nat} (x : List Int) (hC : Kd.C (Kd.int .u8) w0 A' x.length x) (hc : x.length ≤ c') (hl : x.length ≤ l.length) (hx : ∀ y ∈ x, y ∈ l) :
    Rd w0 (w.setCell ⟨rb, 0, none⟩ (.slice A' x.length c')) rb A' c' x :=
  ⟨World.cell?_setCell_same _ _ _ h.c0, by rw [World.frozen?_setCell]; exact h.f0, h.lo, h.bl.setCell h.lo _, hC, hc, Nat.le_trans hl h.lm, fun y hy => h.by_ y (hx y hy)⟩
def Rdx (w0 w : World) (rb : Nat) (l : List Int) : Prop := ∃ A c, Rd w0 w rb A c l
theorem R_only {α : Type} {d : Kd α} {e base : Nat} {p : Nat → Prop} {W W' : World} {v : Value} {xs : List α} (h : d.R e W base (fun _ => True) v xs) (ho : Only p W W') (hp : ∀ k, p k → k < base) : d.R e W' base (fun _ => True) v xs :=
  Kd.R_mono (Kd.R_move (Kd.R_bound h) (fun k hk => ho.block k hk.2.2.1 (fun q => by have := hp k q; have := hk.2.1; omega))) (fun _ _ => trivial)
def NumP (w0 w : World) (rb : Nat) (r : Option (Int × List Int)) (en : Ending) (w' : World) : Prop := Only (fun k => k = rb) w w' ∧ match r with
  | none => en = .panicked wr
  | some (n, x) => en = .returned (.int .i64 n) ∧ Rdx w0 w' rb x
def RowP (w0 w : World) (rb : Nat) (r : Option (List Int × List Int)) (en : Ending) (w' : World) : Prop := Only (fun k => k = rb) w w' ∧ match r with
  | none => en = .panicked wr
  | some (d, x) => ∃ v, en = .returned v ∧ Kd.R (Kd.int .u8) 5 w' w.heap.size (fun _ => True) v d ∧ Rdx w0 w' rb x
def rnum (l : List Int) : Option (Int × List Int) := if (vread l).2.2 = 0 then some ((vread l).1, l.drop (vread l).2.1.toNat) else none
def rbyt (l : List Int) (n : Int) : Option (List Int × List Int) := if n ≤ (l.length : Int) then some (l.take n.toNat, l.drop n.toNat) else none
set_option maxHeartbeats 1000000 in
set_option maxRecDepth 100000 in
theorem bytes_bad {w0 w : World} {rb : Nat} {A : Option Addr} {c : Nat} {l : List Int} (h : Rd w0 w rb A c l) (n : Int) (hn : ¬ n ≤ (l.length : Int)) :
    Calls Tryd.prog 105 #[.pointer (some ⟨rb, 0, none⟩), .int .i64 n] w fun en w' => en = .panicked wr ∧ w = w' := by
  have c0 := h.c0
  have d0 : decide (n ≤ (l.length : Int)) = false := decide_eq_false hn
  clear h hn
  go_enter Tryd.func105, Tryd.ntmps105
  go_wp2_with (go_at_call 79; refine (need_bad _).mono ?_; rintro e1 w1 ⟨rfl, rfl⟩)
  exact ⟨rfl, rfl, rfl⟩
set_option maxHeartbeats 2000000 in
set_option maxRecDepth 100000 in
theorem bytes_ok {w0 w : World} {rb : Nat} {A : Option Addr} {c : Nat} {l : List Int} (h : Rd w0 w rb A c l) (n : Nat) (hn : n ≤ l.length) :
    Calls Tryd.prog 105 #[.pointer (some ⟨rb, 0, none⟩), .int .i64 n] w fun en w' => ∃ v, en = .returned v ∧ Kd.R (Kd.int .u8) 5 w' w.heap.size (fun _ => True) v (l.take n) ∧ Rdx w0 w' rb (l.drop n) ∧ Only (fun k => k = rb) w w' := by
  have c0 := h.c0
  have f0 := h.f0
  have hm := h.lm
  have d0 : decide ((n : Int) ≤ (l.length : Int)) = true := decide_eq_true (by omega)
  have d1 : decide (n ≤ l.length) = true := decide_eq_true hn
  have HH := Aside0.mk h
  obtain ⟨i05, hi5, _, hsz5, _⟩ := info_parts info5
  obtain ⟨hs4, hR4, hc4⟩ := print_take_of (P := Tryd.prog) (Value.int .u8) (0 : Int) 22 5 .i64 Tryd.underlying22 hi5 hsz5 A c l (n : Int) (by omega) (by omega) h.lc
  obtain ⟨A5, hs5, hR5, hc5⟩ := print_drop_of (P := Tryd.prog) (Value.int .u8) (0 : Int) 22 5 .i64 Tryd.underlying22 hi5 hsz5 A c l (n : Int) (by omega) (by omega) h.lc
  simp only [Int.toNat_natCast] at hs4 hR4 hc4 hs5 hR5 hc5
  have hsub : ∀ y ∈ l.drop n, y ∈ l := fun y hy => List.mem_of_mem_drop hy
  have hdl : (l.drop n).length ≤ l.length := by simp
  have htl : (l.take n).length ≤ 140737488355328 := by simp; omega
  obtain ⟨x, hx⟩ : ∃ x, l.take n = x := ⟨_, rfl⟩
  obtain ⟨y, hy⟩ : ∃ y, l.drop n = y := ⟨_, rfl⟩
  rw [hx] at hs4 hR4 hc4 htl ⊢
  rw [hy] at hs5 hR5 hc5 hsub hdl ⊢
  have HC4 := Aside0.mk (show Kd.C (Kd.int .u8) w0 A x.length x from Kd.C_of_reads (h1 := fun _ => rfl) (hR4 _ (Kd.reads_of_C h.C)))
  have HC5 := Aside0.mk (show Kd.C (Kd.int .u8) w0 A5 y.length y from Kd.C_of_reads (h1 := fun _ => rfl) (hR5 _ (Kd.reads_of_C h.C)))
  have HCC4 := Aside0.mk hc4
  have HCC5 := Aside0.mk hc5
  have HSub := Aside0.mk hsub
  have HDl := Aside0.mk hdl
  have HCl := Aside0.mk (show slices_Clone_byte_byte.f x = some x by unfold slices_Clone_byte_byte.f; exact if_pos htl)
  have B0 := Aside0.mk h.bl
  clear h hn hm hi5 hsz5 hR4 hc4 hR5 hc5 hx hy hsub hdl htl
  go_enter Tryd.func105, Tryd.ntmps105
  go_wp2_with (first | (go_at_call 79; refine (need_ok _).mono ?_; rintro e1 w1 ⟨rfl, rfl⟩) | (go_at_call 57; refine (slices_Clone_byte_byte.calls A c x x _ (Kd.C_below HC4.out B0.out) HCC4.out HCl.out).mono ?_; rintro e2 w2 ⟨v2, rfl, ho, hb⟩; have HO2 := Aside0.mk ho; have HB2 := Aside0.mk hb; have RD := Aside0.mk (Rd.below HH.out hb); have c0 := RD.out.c0; have f0 := RD.out.f0; clear ho hb))
  go_ret
  have s1 := ((Only.refl (fun k => k = rb) w2).setCell (ad := ⟨rb, 0, none⟩) rfl (.slice A5 y.length (c - n)))
  have hlt := HH.out.lt
  exact ⟨v2, rfl, R_only HO2.out s1 (fun k e => by subst e; exact hlt), ⟨_, _, RD.out.set y HC5.out HCC5.out HDl.out HSub.out⟩, (Only.of_below HB2.out).trans s1⟩
theorem bytes_post {w0 w : World} {rb : Nat} {l : List Int} (h : Rdx w0 w rb l) (n : Int) (h0 : 0 ≤ n) :
    Calls Tryd.prog 105 #[.pointer (some ⟨rb, 0, none⟩), .int .i64 n] w (RowP w0 w rb (rbyt l n)) := by
  obtain ⟨A, c, h⟩ := h
  unfold rbyt
  by_cases hn : n ≤ (l.length : Int)
  · rw [if_pos hn]
    obtain ⟨m, rfl⟩ := Int.eq_ofNat_of_zero_le h0
    refine (bytes_ok h m (by omega)).mono ?_
    rintro en w' ⟨v, rfl, hR, hx, ho⟩
    exact ⟨ho, v, rfl, by simpa using hR, by simpa using hx⟩
  · rw [if_neg hn]
    refine (bytes_bad h n hn).mono ?_
    rintro en w' ⟨rfl, rfl⟩
    exact ⟨Only.refl _ _, rfl⟩
set_option maxHeartbeats 2000000 in
set_option maxRecDepth 100000 in
theorem number_post {w0 w : World} {rb : Nat} {l : List Int} (h : Rdx w0 w rb l) :
    Calls Tryd.prog 107 #[.pointer (some ⟨rb, 0, none⟩)] w (NumP w0 w rb (rnum l)) := by
  obtain ⟨A, c, h⟩ := h
  have c0 := h.c0
  have f0 := h.f0
  have HH := Aside0.mk h
  have HV := Aside0.mk (varint_Read.calls A c l (vread l).1 (vread l).2.1 (vread l).2.2 w (Kd.C_below h.C h.bl) h.lc (by unfold varint_Read.f; exact if_pos h.by_))
  unfold rnum
  by_cases he : (vread l).2.2 = 0
  · rw [if_pos he]
    have hrange : 0 ≤ (vread l).2.1 ∧ (vread l).2.1 ≤ l.length := by
      unfold vread at he ⊢
      by_cases h0 : l.length = 0
      · rw [if_pos h0] at he; simp at he
      rw [if_neg h0] at he ⊢
      by_cases h1 : l.length < 2 ^ (rd l 0 / 64).toNat
      · rw [if_pos h1] at he; simp at he
      rw [if_neg h1] at he ⊢
      split at he
      · rename_i q
        rw [if_pos q]
        exact ⟨Int.natCast_nonneg _, by simp only []; omega⟩
      · simp at he
    obtain ⟨s, hs⟩ := Int.eq_ofNat_of_zero_le hrange.1
    have hsl : s ≤ l.length := by omega
    rw [he, hs] at HV
    rw [hs]
    generalize (vread l).1 = n at HV ⊢
    obtain ⟨i05, hi5, _, hsz5, _⟩ := info_parts info5
    obtain ⟨A5, hs5, hR5, hc5⟩ := print_drop_of (P := Tryd.prog) (Value.int .u8) (0 : Int) 22 5 .i64 Tryd.underlying22 hi5 hsz5 A c l (s : Int) (by omega) (by omega) h.lc
    simp only [Int.toNat_natCast] at hs5 hR5 hc5 ⊢
    have hsub : ∀ y ∈ l.drop s, y ∈ l := fun y hy => List.mem_of_mem_drop hy
    have hdl : (l.drop s).length ≤ l.length := by simp
    obtain ⟨y, hy⟩ : ∃ y, l.drop s = y := ⟨_, rfl⟩
    rw [hy] at hs5 hR5 hc5 hsub hdl ⊢
    have HC5 := Aside0.mk (show Kd.C (Kd.int .u8) w0 A5 y.length y from Kd.C_of_reads (h1 := fun _ => rfl) (hR5 _ (Kd.reads_of_C h.C)))
    have HCC5 := Aside0.mk hc5
    have HSub := Aside0.mk hsub
    have HDl := Aside0.mk hdl
    clear h hi5 hsz5 hR5 hc5 hy hsub hdl he hs hsl hrange
    go_enter Tryd.func107, Tryd.ntmps107
    go_wp2_with (first | (go_at_call 79; refine (need_ok _).mono ?_; rintro e1 w1 ⟨rfl, rfl⟩) | (go_at_call 27; refine HV.out.mono ?_; rintro e2 w2 ⟨rfl, ⟨k, rfl⟩⟩))
    go_ret
    have HD := (HH.out.below (w' := w.drewN k) (pw_below_drewN (Below.refl _ _) k))
    exact ⟨((Only.refl (fun k => k = rb) w).drewN k).setCell (ad := ⟨rb, 0, none⟩) rfl _, rfl, _, _, HD.set y HC5.out HCC5.out HDl.out HSub.out⟩
  · rw [if_neg he]
    obtain ⟨e, hee⟩ : ∃ e, (vread l).2.2 = e := ⟨_, rfl⟩
    rw [hee] at HV he
    generalize (vread l).1 = n at HV
    generalize (vread l).2.1 = s at HV
    have q0 : (e == 0) = false := by simpa using he
    have q1 : decide (e = 0) = false := decide_eq_false he
    clear h hee he
    go_enter Tryd.func107, Tryd.ntmps107
    go_wp2_with (first | (go_at_call 79; refine (need_bad _).mono ?_; rintro e1 w1 ⟨rfl, rfl⟩) | (go_at_call 27; refine HV.out.mono ?_; rintro e2 w2 ⟨rfl, ⟨k, rfl⟩⟩))
    exact ⟨rfl, ((Only.refl _ w).drewN k), rfl⟩
end Go.Proofs.YtbcleckapamicaaDoor.Fd
namespace Go.Proofs.YtbcleckapamicaaDoor.Fd
open Go Go.RowKit Go.Proofs.YtbcleckapamicaaDoorW.PrintWords Go.Proofs.YtbcleckapamicaaDoorW.PrintLast Go.Proofs.YtbcleckapamicaaDoorW.PrintMore
open Go.Proofs.YtbcleckapamicaaDoor.Onl (Only)
open Go.Proofs.YtbcleckapamicaaDoor.Vn (vread vsize num)
open Go.Proofs.YtbcleckapamicaaDoor.Gf (tbytes ideal_Number.f ideal_Number.calls)
set_option linter.unusedVariables false
set_option linter.unusedSimpArgs false
def rtrm (l : List Int) : Option (Int × List Int) := if 4 ≤ l.length ∧ 1 ≤ num 0 (l.take 4) ∧ num 0 (l.take 4) ≤ 65536 then some (num 0 (l.take 4), l.drop 4) else none
theorem ofInt_i64 (a : Nat) (ha : a < 18446744073709551616) : (BitVec.ofInt 64 (a : Int)).toNat = a := by
  rw [BitVec.ofInt_natCast, BitVec.toNat_ofNat]; exact Nat.mod_eq_of_lt (by omega)
theorem i64_or_nat (a b : Nat) (ha : a < 2 ^ 62) (hb : b < 2 ^ 62) : bits .or .i64 (a : Int) (b : Int) = ((a ||| b : Nat) : Int) := by
  have hx : a ||| b < 2 ^ 62 := Nat.or_lt_two_pow ha hb
  show IntKind.i64.wrap ((BitVec.ofInt 64 (a : Int) ||| BitVec.ofInt 64 (b : Int)).toNat : Int) = _
  rw [BitVec.toNat_or, ofInt_i64 a (by omega), ofInt_i64 b (by omega)]
  simp [IntKind.wrap, IntKind.bits, IntKind.signed]
  omega
theorem i64_or_add (x y : Int) (i : Nat) (hx : 0 ≤ x) (hx' : x < 2 ^ 62) (hy : 0 ≤ y) (hy' : y < 2 ^ 62) (h1 : x.toNat % 2 ^ i = 0) (h2 : y.toNat < 2 ^ i) : bits .or .i64 x y = x + y := by
  obtain ⟨A, rfl⟩ := Int.eq_ofNat_of_zero_le hx
  obtain ⟨B, rfl⟩ := Int.eq_ofNat_of_zero_le hy
  rw [i64_or_nat A B (by omega) (by omega), nat_join i A B (by simpa using h1) (by simpa using h2)]
  omega
theorem step_num {n c : Int} (hn : 0 ≤ n) (hn' : n < 1099511627776) (hc : 0 ≤ c ∧ c ≤ 255) : bits .or .i64 (wrap64 (n * 256)) (wrap64 c) = 256 * n + c := by
  have e0 : wrap64 (n * 256) = n * 256 := by unfold wrap64; omega
  have e1 : wrap64 c = c := by unfold wrap64; omega
  rw [e0, e1, i64_or_add (n * 256) c 8 (by omega) (by omega) (by omega) (by omega) (by omega) (by omega)]
  omega
def upto (x0 x1 x2 x3 : Int) (k : Nat) : Int := if k = 0 then 0 else if k = 1 then x0 else if k = 2 then 256 * x0 + x1 else if k = 3 then 256 * (256 * x0 + x1) + x2 else 256 * (256 * (256 * x0 + x1) + x2) + x3
set_option maxHeartbeats 2000000 in
set_option maxRecDepth 100000 in
theorem numbered_calls (w : World) (A : Option Addr) (c : Nat) (x0 x1 x2 x3 : Int) (hC : Kd.C (Kd.int .u8) w A 4 [x0, x1, x2, x3]) (h0 : 0 ≤ x0 ∧ x0 ≤ 255) (h1 : 0 ≤ x1 ∧ x1 ≤ 255) (h2 : 0 ≤ x2 ∧ x2 ≤ 255) (h3 : 0 ≤ x3 ∧ x3 ≤ 255)
    (ok : Bool) (hok : ok = decide (1 ≤ upto x0 x1 x2 x3 4 ∧ upto x0 x1 x2 x3 4 ≤ 65536)) :
    Calls Tryd.prog 109 #[.slice A 4 c] w fun en w' => en = .returned (.tuple #[.int .i64 (if ok then upto x0 x1 x2 x3 4 else 0), .bool ok]) ∧ Below w.heap.size w w' := by
  obtain ⟨ad, rfl, y0⟩ := Kd.at_int hC 0 (by omega) (by simp)
  obtain ⟨ad', e1, y1⟩ := Kd.at_int hC 1 (by omega) (by simp)
  injection e1 with e1; subst e1
  obtain ⟨ad', e1, y2⟩ := Kd.at_int hC 2 (by omega) (by simp)
  injection e1 with e1; subst e1
  obtain ⟨ad', e1, y3⟩ := Kd.at_int hC 3 (by omega) (by simp)
  injection e1 with e1; subst e1
  simp only [rd, List.getD_cons_zero, List.getD_cons_succ, Int.toNat_zero, Int.toNat_one, Int.reduceToNat] at y0 y1 y2 y3
  have B0 := Below.refl w.heap.size w
  have hlt0 := World.block_lt_of_cell? w _ y0
  have hlt1 := World.block_lt_of_cell? w _ y1
  have hlt2 := World.block_lt_of_cell? w _ y2
  have hlt3 := World.block_lt_of_cell? w _ y3
  have HS := Aside0.mk (show ∀ j v, [Value.int .u8 x0, Value.int .u8 x1, Value.int .u8 x2, Value.int .u8 x3][j]? = some v → (w.alloc (.cells #[.int .u8 0, .int .u8 0, .int .u8 0, .int .u8 0] 138)).cell? (ad.add j) = some v from fun j v hj => by
    match j, hj with
    | 0, hj => injection hj with hj; subst hj; exact pw_cell_below (below_alloc B0 _) y0
    | 1, hj => injection hj with hj; subst hj; exact pw_cell_below (below_alloc B0 _) y1
    | 2, hj => injection hj with hj; subst hj; exact pw_cell_below (below_alloc B0 _) y2
    | 3, hj => injection hj with hj; subst hj; exact pw_cell_below (below_alloc B0 _) y3)
  have i0 : ∀ w, (Instr.index 138 (.agg #[.int .u8 x0, .int .u8 x1, .int .u8 x2, .int .u8 x3]) (.int .i64 0)).run Tryd.prog w = .ok (.int .u8 x0) w := fun _ => by kernel_rfl
  have i1 : ∀ w, (Instr.index 138 (.agg #[.int .u8 x0, .int .u8 x1, .int .u8 x2, .int .u8 x3]) (.int .i64 1)).run Tryd.prog w = .ok (.int .u8 x1) w := fun _ => by kernel_rfl
  have i2 : ∀ w, (Instr.index 138 (.agg #[.int .u8 x0, .int .u8 x1, .int .u8 x2, .int .u8 x3]) (.int .i64 2)).run Tryd.prog w = .ok (.int .u8 x2) w := fun _ => by kernel_rfl
  have i3 : ∀ w, (Instr.index 138 (.agg #[.int .u8 x0, .int .u8 x1, .int .u8 x2, .int .u8 x3]) (.int .i64 3)).run Tryd.prog w = .ok (.int .u8 x3) w := fun _ => by kernel_rfl
  have hcp : (Builtin.copy_ #[22, 22] 3 #[.slice (some ⟨w.heap.size, 0, none⟩) 4 4, .slice (some ad) 4 c]).run Tryd.prog (w.alloc (.cells #[.int .u8 0, .int .u8 0, .int .u8 0, .int .u8 0] 138)) = .ok (.int .i64 4) (w.alloc (.cells #[.int .u8 x0, .int .u8 x1, .int .u8 x2, .int .u8 x3] 138)) := by
    have h := run_copy_row (P := Tryd.prog) (w.alloc (.cells #[.int .u8 0, .int .u8 0, .int .u8 0, .int .u8 0] 138)) 22 22 3 5 w.heap.size 0 4 4 ad 4 c #[.int .u8 0, .int .u8 0, .int .u8 0, .int .u8 0] 138 [.int .u8 x0, .int .u8 x1, .int .u8 x2, .int .u8 x3] Tryd.underlying22 (by kernel_rfl) (World.alloc_heap_new _ _) (by simp) HS.out (by simp) (by intro v hv; simp at hv; rcases hv with rfl | rfl | rfl | rfl <;> rfl)
    rw [h, World.setRow_alloc_new]
    rfl
  have HB0 := Aside0.mk (below_alloc B0 (.cells #[.int .u8 x0, .int .u8 x1, .int .u8 x2, .int .u8 x3] 138))
  have HD := Aside0.mk (And.intro h0 (And.intro h1 (And.intro h2 h3)))
  have HOK := Aside0.mk hok
  clear hC y0 y1 y2 y3 hlt0 hlt1 hlt2 hlt3 B0 h0 h1 h2 h3 hok
  go_enter Tryd.func109, Tryd.ntmps109
  go_wp2
  go_loopg [5, 7, 15] 4 (fun gg n5 v7 i wr => ∃ k : Nat, k ≤ 4 ∧ 4 - k ≤ gg ∧ i = .int .i64 k ∧ n5 = .int .i64 (upto x0 x1 x2 x3 k) ∧ wr = w.alloc (.cells #[.int .u8 x0, .int .u8 x1, .int .u8 x2, .int .u8 x3] 138))
  case atStart => exact ⟨0, Nat.zero_le _, by omega, rfl, rfl, rfl⟩
  case round =>
    obtain ⟨kk, hkk, hg, rfl, rfl, hw⟩ := hrel
    subst hw
    have D := HD.out
    have s0 := step_num (n := 0) (c := x0) (by omega) (by omega) D.1
    have s1 := step_num (n := x0) (c := x1) (by omega) (by omega) D.2.1
    have s2 := step_num (n := 256 * x0 + x1) (c := x2) (by omega) (by omega) D.2.2.1
    have s3 := step_num (n := 256 * (256 * x0 + x1) + x2) (c := x3) (by omega) (by omega) D.2.2.2
    clear D
    have S0 := Aside0.mk s0
    have S1 := Aside0.mk s1
    have S2 := Aside0.mk s2
    have S3 := Aside0.mk s3
    clear s0 s1 s2 s3
    obtain rfl | rfl | rfl | rfl | rfl : kk = 0 ∨ kk = 1 ∨ kk = 2 ∨ kk = 3 ∨ kk = 4 := by omega
    · have e : upto x0 x1 x2 x3 0 = 0 := rfl
      rw [e]
      clear e
      go_wp2
      go_roundg 3
      case measure => omega
      case rel => exact ⟨1, by omega, by omega, rfl, by have := S0.out; simp at this; rw [show wrap64 0 = 0 by decide +kernel] at this; simp [upto, this], rfl⟩
    · have e : upto x0 x1 x2 x3 1 = x0 := rfl
      rw [e]
      clear e
      go_wp2
      go_roundg 2
      case measure => omega
      case rel => exact ⟨2, by omega, by omega, rfl, by rw [S1.out]; rfl, rfl⟩
    · have e : upto x0 x1 x2 x3 2 = 256 * x0 + x1 := rfl
      rw [e]
      generalize hm : 256 * x0 + x1 = m at *
      have HM := Aside0.mk hm
      clear e hm
      go_wp2
      go_roundg 1
      case measure => omega
      case rel => exact ⟨3, by omega, by omega, rfl, by rw [S2.out, ← HM.out]; rfl, rfl⟩
    · have e : upto x0 x1 x2 x3 3 = 256 * (256 * x0 + x1) + x2 := rfl
      rw [e]
      generalize hm : 256 * (256 * x0 + x1) + x2 = m at *
      have HM := Aside0.mk hm
      clear e hm
      go_wp2
      go_roundg 0
      case measure => omega
      case rel => exact ⟨4, by omega, by omega, rfl, by rw [S3.out, ← HM.out]; rfl, rfl⟩
    · have hok := HOK.out
      obtain ⟨h, hh⟩ : ∃ h, upto x0 x1 x2 x3 4 = h := ⟨_, rfl⟩
      rw [hh] at hok ⊢
      have HH := Aside0.mk hh
      clear hh
      have HN := ideal_Number.calls h (tbytes h) (w.alloc (.cells #[.int .u8 x0, .int .u8 x1, .int .u8 x2, .int .u8 x3] 138)) rfl
      have hlen : (tbytes h).length = if 1 ≤ h ∧ h ≤ 65536 then 4 else 0 := by
        unfold tbytes
        by_cases q : h < 1 ∨ h > 65536
        · rw [if_pos q, if_neg (by omega)]; rfl
        · rw [if_neg q, if_pos (by omega)]; rfl
      cases ok with
      | true =>
        have q := of_decide_eq_true hok.symm
        rw [if_pos q] at hlen
        have HLn := Aside0.mk hlen
        clear hlen q hok S0 S1 S2 S3
        go_wp2_with (go_at_call 65; refine HN.mono ?_; rintro e1 w1 ⟨v1, rfl, ho, hb⟩; obtain ⟨A1, c1, e1⟩ := Kd.R_slice ho; rw [HLn.out] at e1; subst e1; have HB1 := Aside0.mk hb; clear ho hb)
        go_ret2
        exact ⟨by rw [HH.out]; rfl, below_step HB0.out HB1.out⟩
      | false =>
        have q := of_decide_eq_false hok.symm
        rw [if_neg q] at hlen
        have HLn := Aside0.mk hlen
        clear hlen q hok S0 S1 S2 S3
        go_wp2_with (go_at_call 65; refine HN.mono ?_; rintro e1 w1 ⟨v1, rfl, ho, hb⟩; obtain ⟨A1, c1, e1⟩ := Kd.R_slice ho; rw [HLn.out] at e1; subst e1; have HB1 := Aside0.mk hb; clear ho hb)
        go_ret2
        exact ⟨rfl, below_step HB0.out HB1.out⟩
theorem num4 (a b c d : Int) : num 0 [a, b, c, d] = upto a b c d 4 := by simp [num, upto]
set_option maxHeartbeats 2000000 in
set_option maxRecDepth 100000 in
theorem term_post {w0 w : World} {rb : Nat} {l : List Int} (h : Rdx w0 w rb l) :
    Calls Tryd.prog 108 #[.pointer (some ⟨rb, 0, none⟩)] w (NumP w0 w rb (rtrm l)) := by
  have HB := bytes_post h 4 (by omega)
  have hby : ∀ x ∈ l, 0 ≤ x ∧ x ≤ 255 := by obtain ⟨A, c, h⟩ := h; exact h.by_
  by_cases h4 : (4 : Int) ≤ (l.length : Int)
  · obtain ⟨x0, x1, x2, x3, r, rfl⟩ : ∃ x0 x1 x2 x3 r, l = x0 :: x1 :: x2 :: x3 :: r := by
      match l, h4 with
      | a :: b :: c :: d :: t, _ => exact ⟨a, b, c, d, t, rfl⟩
    have e1 : rbyt (x0 :: x1 :: x2 :: x3 :: r) 4 = some ([x0, x1, x2, x3], r) := by unfold rbyt; rw [if_pos h4]; rfl
    rw [e1] at HB
    have D := Aside0.mk (show (0 ≤ x0 ∧ x0 ≤ 255) ∧ (0 ≤ x1 ∧ x1 ≤ 255) ∧ (0 ≤ x2 ∧ x2 ≤ 255) ∧ (0 ≤ x3 ∧ x3 ≤ 255) from ⟨hby _ (by simp), hby _ (by simp), hby _ (by simp), hby _ (by simp)⟩)
    have HBA := Aside0.mk HB
    have NB := fun (W : World) (A : Option Addr) (c : Nat) (hC : Kd.C (Kd.int .u8) W A 4 [x0, x1, x2, x3]) (ok : Bool) (hok : ok = decide (1 ≤ upto x0 x1 x2 x3 4 ∧ upto x0 x1 x2 x3 4 ≤ 65536)) => numbered_calls W A c x0 x1 x2 x3 hC D.out.1 D.out.2.1 D.out.2.2.1 D.out.2.2.2 ok hok
    have er : rtrm (x0 :: x1 :: x2 :: x3 :: r) = if 1 ≤ upto x0 x1 x2 x3 4 ∧ upto x0 x1 x2 x3 4 ≤ 65536 then some (upto x0 x1 x2 x3 4, r) else none := by
      unfold rtrm
      rw [show (x0 :: x1 :: x2 :: x3 :: r).take 4 = [x0, x1, x2, x3] from rfl, num4]
      by_cases q : 1 ≤ upto x0 x1 x2 x3 4 ∧ upto x0 x1 x2 x3 4 ≤ 65536
      · rw [if_pos q, if_pos ⟨by simp, q.1, q.2⟩]; rfl
      · rw [if_neg q, if_neg (fun h => q h.2)]
    rw [er]
    by_cases q : 1 ≤ upto x0 x1 x2 x3 4 ∧ upto x0 x1 x2 x3 4 ≤ 65536
    · rw [if_pos q]
      have NB' := Aside0.mk (fun (W : World) (A : Option Addr) (c : Nat) (hC : Kd.C (Kd.int .u8) W A 4 [x0, x1, x2, x3]) => NB W A c hC true (by simp [q]))
      clear NB er q HB h hby h4 e1
      generalize upto x0 x1 x2 x3 4 = n at NB' ⊢
      go_enter Tryd.func108, Tryd.ntmps108
      go_wp2_with (first | (go_at_call 105; refine HBA.out.mono ?_; rintro e1 w1 ⟨ho, v1, rfl, hR, hx⟩; obtain ⟨A1, c1, rfl, hl1, hC⟩ := Kd.R_reads hR; have HC := Aside0.mk hC; have HO := Aside0.mk ho; have HX := Aside0.mk hx; clear ho hR hx hC hl1) | (go_at_call 109; refine (NB'.out _ A1 c1 HC.out).mono ?_; rintro e2 w2 ⟨rfl, hb2⟩; have HB2 := Aside0.mk hb2; clear hb2) | (go_at_call 79; refine (need_ok _).mono ?_; rintro e1 w1 ⟨rfl, rfl⟩))
      go_ret
      obtain ⟨A2, c2, hx⟩ := HX.out
      exact ⟨HO.out.trans (Only.of_below HB2.out), rfl, A2, c2, hx.below HB2.out⟩
    · rw [if_neg q]
      have NB' := Aside0.mk (fun (W : World) (A : Option Addr) (c : Nat) (hC : Kd.C (Kd.int .u8) W A 4 [x0, x1, x2, x3]) => NB W A c hC false (by simp [q]))
      clear NB er q HB h hby h4 e1
      generalize upto x0 x1 x2 x3 4 = n at NB' ⊢
      go_enter Tryd.func108, Tryd.ntmps108
      go_wp2_with (first | (go_at_call 105; refine HBA.out.mono ?_; rintro e1 w1 ⟨ho, v1, rfl, hR, hx⟩; obtain ⟨A1, c1, rfl, hl1, hC⟩ := Kd.R_reads hR; have HC := Aside0.mk hC; have HO := Aside0.mk ho; have HX := Aside0.mk hx; clear ho hR hx hC hl1) | (go_at_call 109; refine (NB'.out _ A1 c1 HC.out).mono ?_; rintro e2 w2 ⟨rfl, hb2⟩; have HB2 := Aside0.mk hb2; clear hb2) | (go_at_call 79; refine (need_bad _).mono ?_; rintro e1 w1 ⟨rfl, rfl⟩))
      exact ⟨rfl, HO.out.trans (Only.of_below HB2.out), rfl⟩
  · have e1 : rbyt l 4 = none := by unfold rbyt; exact if_neg h4
    have e2 : rtrm l = none := by unfold rtrm; exact if_neg (fun q => h4 (by omega))
    rw [e1] at HB
    rw [e2]
    have HBA := Aside0.mk HB
    clear HB h hby h4 e1 e2
    go_enter Tryd.func108, Tryd.ntmps108
    go_wp2_with (go_at_call 105; refine HBA.out.mono ?_; rintro e1 w1 ⟨ho, rfl⟩; have HO := Aside0.mk ho; clear ho)
    exact ⟨rfl, HO.out, rfl⟩
end Go.Proofs.YtbcleckapamicaaDoor.Fd
namespace Go.Proofs.YtbcleckapamicaaDoor.Fd
open Go Go.RowKit Go.Proofs.YtbcleckapamicaaDoorW.PrintWords Go.Proofs.YtbcleckapamicaaDoorW.PrintLast Go.Proofs.YtbcleckapamicaaDoorW.PrintMore
open Go.Proofs.YtbcleckapamicaaDoor.QFr (S58 S103 k58 k103)
open Go.Proofs.YtbcleckapamicaaDoor.Onl (Only)
open Go.Proofs.YtbcleckapamicaaDoor.Vn (vread vsize num)
set_option linter.unusedVariables false
set_option linter.unusedSimpArgs false
def padF : List Int → Nat × List Int
  | [] => (0, [])
  | x :: l => if x = 0 then ((padF l).1 + 1, (padF l).2) else (0, x :: l)
def gapF (tp : Int) (l : List Int) : Option (Int × List Int) := (rnum l).bind fun r => if r.1 + 2 ≤ tp then some (tp - (r.1 + 2), r.2) else none
def spanF (tp : Int) (l : List Int) : Option (S103 × List Int) := (rnum l).bind fun r => if r.1 ≤ tp then some (⟨tp - r.1, tp⟩, r.2) else none
def ackF : Nat → Int → List Int → Option (List S103 × List Int)
  | 0, _, l => some ([], l)
  | d + 1, tp, l => (gapF tp l).bind fun g => (spanF g.1 g.2).bind fun s => (ackF d s.1.f0 s.2).map fun t => (s.1 :: t.1, t.2)
def ackR (l : List Int) : Option (List S103 × List Int) := (rnum l).bind fun a => (rnum a.2).bind fun m => if m.1 < 32 then (spanF a.1 m.2).bind fun s => (ackF m.1.toNat s.1.f0 s.2).map fun t => (s.1 :: t.1, t.2) else none
def body (k : Int) (l : List Int) : Option (S58 × List Int) :=
  if k = 0 then some (⟨0, ((padF l).1 : Int) + 1, [], 0, [], 0⟩, (padF l).2) else
  if k = 1 then some (⟨1, 0, [], 0, [], 0⟩, l) else
  if k = 30 then some (⟨30, 0, [], 0, [], 0⟩, l) else
  if k = 2 then (ackR l).map fun r => (⟨2, 0, r.1, 0, [], 0⟩, r.2) else
  if k = 6 then (rnum l).bind fun a => (rnum a.2).bind fun n => (rbyt n.2 n.1).map fun d => (⟨6, 0, [], a.1, d.1, 0⟩, d.2) else
  if k = 7 then (rtrm l).map fun t => (⟨7, 0, [], 0, [], t.1⟩, t.2) else
  if k = 8 then (rnum l).bind fun c => (rtrm c.2).map fun t => (⟨8, c.1, [], 0, [], t.1⟩, t.2) else
  if k = 28 then (rnum l).map fun c => (⟨28, c.1, [], 0, [], 0⟩, c.2) else none
def Blk (w : World) (b : Nat) (cs : List Value) : Prop := w.heap[b]? = some (.cells cs.toArray 58 (0, 0))
theorem Blk.lt {w : World} {b : Nat} {cs : List Value} (h : Blk w b cs) : b < w.heap.size := (Array.getElem?_eq_some_iff.1 h).1
theorem Blk.cell {w : World} {b : Nat} {cs : List Value} (h : Blk w b cs) (j : Nat) (v : Value) (hj : cs[j]? = some v) : w.cell? ⟨b, j, none⟩ = some v := by
  unfold Blk at h
  simp [World.cell?, h, hj]
theorem Blk.frozen {w : World} {b : Nat} {cs : List Value} (h : Blk w b cs) (j : Nat) : w.frozen? ⟨b, j, none⟩ = false := by
  unfold Blk at h
  simp [World.frozen?, h]
theorem Blk.set {w : World} {b : Nat} {cs : List Value} (h : Blk w b cs) (j : Nat) (v : Value) : Blk (w.setCell ⟨b, j, none⟩ v) b (cs.set j v) := by
  unfold Blk at h ⊢
  rw [heap_setCell_same w b j cs.toArray 58 v h]
  simp
theorem Blk.only {w w' : World} {b : Nat} {cs : List Value} (h : Blk w b cs) {p : Nat → Prop} (ho : Only p w w') (hp : ¬ p b) : Blk w' b cs := (ho.block b h.lt hp).trans h
theorem Blk.far {w : World} {b : Nat} {cs : List Value} (h : Blk w b cs) {a : Addr} (ha : a.block ≠ b) (v : Value) : Blk (w.setCell a v) b cs := by
  unfold Blk at h ⊢
  rw [heap_setCell_other _ _ _ _ (fun e => ha e.symm)]
  exact h
theorem Blk.new (w : World) (cs : List Value) : Blk (w.alloc (.cells cs.toArray 58)) w.heap.size cs := World.alloc_heap_new w _
def put6 (w : World) (b : Nat) (v0 v1 v2 v3 v4 v5 : Value) : World := (((((w.setCell ⟨b, 0, none⟩ v0).setCell ⟨b, 1, none⟩ v1).setCell ⟨b, 2, none⟩ v2).setCell ⟨b, 3, none⟩ v3).setCell ⟨b, 4, none⟩ v4).setCell ⟨b, 5, none⟩ v5
theorem put6_only (w : World) (b : Nat) (v0 v1 v2 v3 v4 v5 : Value) : Only (fun k => k = b) w (put6 w b v0 v1 v2 v3 v4 v5) := by
  unfold put6
  exact ((((((Only.refl (fun k => k = b) w).setCell (ad := ⟨b, 0, none⟩) rfl v0).setCell (ad := ⟨b, 1, none⟩) rfl v1).setCell (ad := ⟨b, 2, none⟩) rfl v2).setCell (ad := ⟨b, 3, none⟩) rfl v3).setCell (ad := ⟨b, 4, none⟩) rfl v4).setCell (ad := ⟨b, 5, none⟩) rfl v5
theorem put6_blk {w : World} {b : Nat} {z0 z1 z2 z3 z4 z5 : Value} (h : Blk w b [z0, z1, z2, z3, z4, z5]) (v0 v1 v2 v3 v4 v5 : Value) : Blk (put6 w b v0 v1 v2 v3 v4 v5) b [v0, v1, v2, v3, v4, v5] :=
  (((((h.set 0 v0).set 1 v1).set 2 v2).set 3 v3).set 4 v4).set 5 v5
theorem new_only {w w1 w2 : World} {o : Obj} {rb : Nat} (h : Only (fun k => k = rb) (w.alloc o) w1) (h2 : Only (fun k => k = w.heap.size) w1 w2) : Only (fun k => k = rb) w w2 := by
  have h1 := ((Only.refl (fun k => k = rb) w).alloc o).trans h
  exact ⟨h2.os.trans h1.os, h2.tape.trans h1.tape, h2.output.trans h1.output, Nat.le_trans h1.size h2.size, fun k hk hn => (h2.block k (Nat.lt_of_lt_of_le hk h1.size) (by omega)).trans (h1.block k hk hn)⟩
theorem Rdx.lt {w0 w : World} {rb : Nat} {l : List Int} (h : Rdx w0 w rb l) : rb < w.heap.size := by obtain ⟨A, c, h⟩ := h; exact h.lt
theorem Rdx.below {w0 w w' : World} {rb : Nat} {l : List Int} (h : Rdx w0 w rb l) (hb : Below w.heap.size w w') : Rdx w0 w' rb l := by obtain ⟨A, c, h⟩ := h; exact ⟨A, c, h.below hb⟩
theorem Rdx.only {w0 w w' : World} {rb b : Nat} {l : List Int} (h : Rdx w0 w rb l) (ho : Only (fun k => k = b) w w') (hb : b ≠ rb) (h0 : w0.heap.size ≤ b) : Rdx w0 w' rb l := by
  obtain ⟨A, c, h⟩ := h
  exact ⟨A, c, h.only ho (fun e => hb e.symm) (fun k e => by subst e; exact h0)⟩
theorem Rdx.lo {w0 w : World} {rb : Nat} {l : List Int} (h : Rdx w0 w rb l) : w0.heap.size ≤ rb := by obtain ⟨A, c, h⟩ := h; exact h.lo
def FrmP (w0 w : World) (rb : Nat) (r : Option (S58 × List Int)) (en : Ending) (w' : World) : Prop := Only (fun k => k = rb) w w' ∧ match r with
  | none => en = .panicked wr
  | some (f, x) => (∃ v2 v4 : Value, en = .returned (.agg #[.int .i64 f.f0, .int .i64 f.f1, v2, .int .i64 f.f3, v4, .int .i64 f.f5]) ∧ Kd.R k103 103 w' w.heap.size (fun _ => True) v2 f.f2 ∧ Kd.R (Kd.int .u8) 5 w' w.heap.size (fun _ => True) v4 f.f4) ∧ Rdx w0 w' rb x
set_option maxHeartbeats 2000000 in
set_option maxRecDepth 100000 in
theorem ping_post {w0 w : World} {rb : Nat} {l : List Int} (h : Rdx w0 w rb l) :
    Calls Tryd.prog 98 #[.pointer (some ⟨rb, 0, none⟩)] w (FrmP w0 w rb (some (⟨1, 0, [], 0, [], 0⟩, l))) := by
  obtain ⟨A, c, h⟩ := h
  have HH := Aside0.mk h
  clear h
  go_enter Tryd.func98, Tryd.ntmps98
  go_wp2
  refine bodyPost_ret (v := .agg #[.int .i64 1, .int .i64 0, .slice none 0 0, .int .i64 0, .slice none 0 0, .int .i64 0]) ?_ rfl ?_
  · simp [results, Tryd.results98, go_sem]
  · exact ⟨(Only.refl _ w).alloc _, ⟨_, _, rfl, Kd.R_nil _ _ _ _ _, Kd.R_nil _ _ _ _ _⟩, _, _, HH.out.below (below_alloc (Below.refl _ _) _)⟩
set_option maxHeartbeats 2000000 in
set_option maxRecDepth 100000 in
theorem done_post {w0 w : World} {rb : Nat} {l : List Int} (h : Rdx w0 w rb l) :
    Calls Tryd.prog 104 #[.pointer (some ⟨rb, 0, none⟩)] w (FrmP w0 w rb (some (⟨30, 0, [], 0, [], 0⟩, l))) := by
  obtain ⟨A, c, h⟩ := h
  have HH := Aside0.mk h
  clear h
  go_enter Tryd.func104, Tryd.ntmps104
  go_wp2
  refine bodyPost_ret (v := .agg #[.int .i64 30, .int .i64 0, .slice none 0 0, .int .i64 0, .slice none 0 0, .int .i64 0]) ?_ rfl ?_
  · simp [results, Tryd.results104, go_sem]
  · exact ⟨(Only.refl _ w).alloc _, ⟨_, _, rfl, Kd.R_nil _ _ _ _ _, Kd.R_nil _ _ _ _ _⟩, _, _, HH.out.below (below_alloc (Below.refl _ _) _)⟩
set_option maxHeartbeats 2000000 in
set_option maxRecDepth 100000 in
theorem token_post {w0 w : World} {rb : Nat} {l : List Int} (h : Rdx w0 w rb l) :
    Calls Tryd.prog 101 #[.pointer (some ⟨rb, 0, none⟩)] w (FrmP w0 w rb ((rtrm l).map fun t => (⟨7, 0, [], 0, [], t.1⟩, t.2))) := by
  have HC := Aside0.mk (term_post (h.below (w' := w.alloc (.cells #[.int .i64 0, .int .i64 0, .slice none 0 0, .int .i64 0, .slice none 0 0, .int .i64 0] 58)) (below_alloc (Below.refl _ _) _)))
  have HL := Aside0.mk (show rb < w.heap.size from h.lt)
  have HZ := Aside0.mk (Blk.new w [.int .i64 0, .int .i64 0, .slice none 0 0, .int .i64 0, .slice none 0 0, .int .i64 0])
  clear h
  rcases hr : rtrm l with _ | ⟨n, x⟩
  · rw [hr] at HC
    clear hr
    go_enter Tryd.func101, Tryd.ntmps101
    go_wp2_with (go_at_call 108; refine HC.out.mono ?_; rintro e1 w1 ⟨ho, rfl⟩; have HO := Aside0.mk ho; clear ho)
    exact ⟨rfl, ((Only.refl _ w).alloc _).trans HO.out, rfl⟩
  · rw [hr] at HC
    clear hr
    go_enter Tryd.func101, Tryd.ntmps101
    go_wp2_with (go_at_call 108; refine HC.out.mono ?_; rintro e1 w1 ⟨ho, rfl, hx⟩; have hL := HL.out; have HO := Aside0.mk ho; have HX := Aside0.mk hx; have B1 := Aside0.mk (HZ.out.only ho (by omega)); clear ho hx hL; have z0 := (B1.out).cell 0 _ rfl; have z1 := (B1.out).cell 1 _ rfl; have z2 := (B1.out).cell 2 _ rfl; have z3 := (B1.out).cell 3 _ rfl; have z4 := (B1.out).cell 4 _ rfl; have z5 := (B1.out).cell 5 _ rfl; have y0 := (B1.out).frozen 0; have y1 := (B1.out).frozen 1; have y2 := (B1.out).frozen 2; have y3 := (B1.out).frozen 3; have y4 := (B1.out).frozen 4; have y5 := (B1.out).frozen 5)
    change bodyPost _ _ _ _ _ (put6 w1 w.heap.size (.int .i64 7) (.int .i64 0) (.slice none 0 0) (.int .i64 0) (.slice none 0 0) (.int .i64 n))
    have B2 := put6_blk B1.out (.int .i64 7) (.int .i64 0) (.slice none 0 0) (.int .i64 0) (.slice none 0 0) (.int .i64 n)
    have O2 := put6_only w1 w.heap.size (.int .i64 7) (.int .i64 0) (.slice none 0 0) (.int .i64 0) (.slice none 0 0) (.int .i64 n)
    clear z0 z1 z2 z3 z4 z5 y0 y1 y2 y3 y4 y5 HC
    generalize put6 w1 w.heap.size (.int .i64 7) (.int .i64 0) (.slice none 0 0) (.int .i64 0) (.slice none 0 0) (.int .i64 n) = w2 at *
    have x0 := B2.cell 0 _ rfl
    have x1 := B2.cell 1 _ rfl
    have x2 := B2.cell 2 _ rfl
    have x3 := B2.cell 3 _ rfl
    have x4 := B2.cell 4 _ rfl
    have x5 := B2.cell 5 _ rfl
    refine bodyPost_ret (v := .agg #[.int .i64 7, .int .i64 0, .slice none 0 0, .int .i64 0, .slice none 0 0, .int .i64 n]) ?_ rfl ?_
    · simp [results, Tryd.results101, go_sem, x0, x1, x2, x3, x4, x5]
    · have hL := HL.out
      obtain ⟨A2, c2, hx⟩ := HX.out
      exact ⟨new_only HO.out O2, ⟨_, _, rfl, Kd.R_nil _ _ _ _ _, Kd.R_nil _ _ _ _ _⟩, _, _, hx.only O2 (by omega) (fun k q => by have := hx.lo; have := hx.bl.size; have := HO.out.size; subst q; have := Rd.lo hx; omega)⟩
set_option maxHeartbeats 2000000 in
set_option maxRecDepth 100000 in
theorem closed_post {w0 w : World} {rb : Nat} {l : List Int} (h : Rdx w0 w rb l) :
    Calls Tryd.prog 103 #[.pointer (some ⟨rb, 0, none⟩)] w (FrmP w0 w rb ((rnum l).map fun c => (⟨28, c.1, [], 0, [], 0⟩, c.2))) := by
  have HC := Aside0.mk (number_post (h.below (w' := w.alloc (.cells #[.int .i64 0, .int .i64 0, .slice none 0 0, .int .i64 0, .slice none 0 0, .int .i64 0] 58)) (below_alloc (Below.refl _ _) _)))
  have HL := Aside0.mk (show rb < w.heap.size from h.lt)
  have HZ := Aside0.mk (Blk.new w [.int .i64 0, .int .i64 0, .slice none 0 0, .int .i64 0, .slice none 0 0, .int .i64 0])
  clear h
  rcases hr : rnum l with _ | ⟨n, x⟩
  · rw [hr] at HC
    clear hr
    go_enter Tryd.func103, Tryd.ntmps103
    go_wp2_with (go_at_call 107; refine HC.out.mono ?_; rintro e1 w1 ⟨ho, rfl⟩; have HO := Aside0.mk ho; clear ho)
    exact ⟨rfl, ((Only.refl _ w).alloc _).trans HO.out, rfl⟩
  · rw [hr] at HC
    clear hr
    go_enter Tryd.func103, Tryd.ntmps103
    go_wp2_with (go_at_call 107; refine HC.out.mono ?_; rintro e1 w1 ⟨ho, rfl, hx⟩; have hL := HL.out; have HO := Aside0.mk ho; have HX := Aside0.mk hx; have B1 := Aside0.mk (HZ.out.only ho (by omega)); clear ho hx hL; have z0 := (B1.out).cell 0 _ rfl; have z1 := (B1.out).cell 1 _ rfl; have z2 := (B1.out).cell 2 _ rfl; have z3 := (B1.out).cell 3 _ rfl; have z4 := (B1.out).cell 4 _ rfl; have z5 := (B1.out).cell 5 _ rfl; have y0 := (B1.out).frozen 0; have y1 := (B1.out).frozen 1; have y2 := (B1.out).frozen 2; have y3 := (B1.out).frozen 3; have y4 := (B1.out).frozen 4; have y5 := (B1.out).frozen 5)
    change bodyPost _ _ _ _ _ (put6 w1 w.heap.size (.int .i64 28) (.int .i64 n) (.slice none 0 0) (.int .i64 0) (.slice none 0 0) (.int .i64 0))
    have B2 := put6_blk B1.out (.int .i64 28) (.int .i64 n) (.slice none 0 0) (.int .i64 0) (.slice none 0 0) (.int .i64 0)
    have O2 := put6_only w1 w.heap.size (.int .i64 28) (.int .i64 n) (.slice none 0 0) (.int .i64 0) (.slice none 0 0) (.int .i64 0)
    clear z0 z1 z2 z3 z4 z5 y0 y1 y2 y3 y4 y5 HC
    generalize put6 w1 w.heap.size (.int .i64 28) (.int .i64 n) (.slice none 0 0) (.int .i64 0) (.slice none 0 0) (.int .i64 0) = w2 at *
    have x0 := B2.cell 0 _ rfl
    have x1 := B2.cell 1 _ rfl
    have x2 := B2.cell 2 _ rfl
    have x3 := B2.cell 3 _ rfl
    have x4 := B2.cell 4 _ rfl
    have x5 := B2.cell 5 _ rfl
    refine bodyPost_ret (v := .agg #[.int .i64 28, .int .i64 n, .slice none 0 0, .int .i64 0, .slice none 0 0, .int .i64 0]) ?_ rfl ?_
    · simp [results, Tryd.results103, go_sem, x0, x1, x2, x3, x4, x5]
    · have hL := HL.out
      obtain ⟨A2, c2, hx⟩ := HX.out
      exact ⟨new_only HO.out O2, ⟨_, _, rfl, Kd.R_nil _ _ _ _ _, Kd.R_nil _ _ _ _ _⟩, _, _, hx.only O2 (by omega) (fun k q => by have := hx.lo; have := hx.bl.size; have := HO.out.size; subst q; have := Rd.lo hx; omega)⟩
end Go.Proofs.YtbcleckapamicaaDoor.Fd
namespace Go.Proofs.YtbcleckapamicaaDoor.Fd
open Go Go.RowKit Go.Proofs.YtbcleckapamicaaDoorW.PrintWords Go.Proofs.YtbcleckapamicaaDoorW.PrintLast Go.Proofs.YtbcleckapamicaaDoorW.PrintMore
open Go.Proofs.YtbcleckapamicaaDoor.QFr (S58 S103 k58 k103)
open Go.Proofs.YtbcleckapamicaaDoor.Onl (Only)
open Go.Proofs.YtbcleckapamicaaDoor.Vn (vread vsize num)
set_option linter.unusedVariables false
set_option linter.unusedSimpArgs false
theorem own_only {w w1 w2 : World} {rb b : Nat} (h : Only (fun k => k = rb) w w1) (h2 : Only (fun k => k = b) w1 w2) (hb : w.heap.size ≤ b) : Only (fun k => k = rb) w w2 :=
  ⟨h2.os.trans h.os, h2.tape.trans h.tape, h2.output.trans h.output, Nat.le_trans h.size h2.size, fun k hk hn => (h2.block k (Nat.lt_of_lt_of_le hk h.size) (by omega)).trans (h.block k hk hn)⟩
theorem Rdx.by_ {w0 w : World} {rb : Nat} {l : List Int} (h : Rdx w0 w rb l) : ∀ x ∈ l, 0 ≤ x ∧ x ≤ 255 := by obtain ⟨A, c, h⟩ := h; exact h.by_
theorem vread_nn {l : List Int} (hB : ∀ x ∈ l, 0 ≤ x ∧ x ≤ 255) : 0 ≤ (vread l).1 ∧ (vread l).1 ≤ 4611686018427387903 := by
  unfold vread
  split
  · exact ⟨Int.le_refl _, by decide⟩
  split
  · exact ⟨Int.le_refl _, by decide⟩
  split
  · rename_i h2
    simp only []
    unfold vsize at h2
    have hp : 1 ≤ 2 ^ (rd l 0 / 64).toNat := Nat.one_le_two_pow
    by_cases hb : num (rd l 0 % 64) ((l.take (2 ^ (rd l 0 / 64).toNat)).drop 1) < 0 ∨ num (rd l 0 % 64) ((l.take (2 ^ (rd l 0 / 64).toNat)).drop 1) > 4611686018427387903
    · rw [if_pos hb] at h2; omega
    · omega
  · exact ⟨Int.le_refl _, by decide⟩
theorem rnum_rng {l x : List Int} {n : Int} (hB : ∀ x ∈ l, 0 ≤ x ∧ x ≤ 255) (h : rnum l = some (n, x)) : 0 ≤ n ∧ n ≤ 4611686018427387903 := by
  unfold rnum at h
  split at h
  · injection h with h; injection h with h _; rw [← h]; exact vread_nn hB
  · cases h
theorem rnum_nn {l x : List Int} {n : Int} (hB : ∀ x ∈ l, 0 ≤ x ∧ x ≤ 255) (h : rnum l = some (n, x)) : 0 ≤ n := (rnum_rng hB h).1
set_option maxHeartbeats 400000 in
set_option maxRecDepth 100000 in
theorem data_post {w0 w : World} {rb : Nat} {l : List Int} (h : Rdx w0 w rb l) :
    Calls Tryd.prog 102 #[.pointer (some ⟨rb, 0, none⟩)] w (FrmP w0 w rb ((rnum l).bind fun c => (rtrm c.2).map fun t => (⟨8, c.1, [], 0, [], t.1⟩, t.2))) := by
  have HC := Aside0.mk (number_post (h.below (w' := w.alloc (.cells #[.int .i64 0, .int .i64 0, .slice none 0 0, .int .i64 0, .slice none 0 0, .int .i64 0] 58)) (below_alloc (Below.refl _ _) _)))
  have HL := Aside0.mk (show rb < w.heap.size ∧ w0.heap.size ≤ rb from ⟨h.lt, h.lo⟩)
  have HZ := Aside0.mk (Blk.new w [.int .i64 0, .int .i64 0, .slice none 0 0, .int .i64 0, .slice none 0 0, .int .i64 0])
  clear h
  obtain ⟨b0, hb0⟩ : ∃ b0, w.heap.size = b0 := ⟨_, rfl⟩
  generalize hres : ((rnum l).bind fun c => (rtrm c.2).map fun t => ((⟨8, c.1, [], 0, [], t.1⟩ : S58), t.2)) = res
  rcases hr : rnum l with _ | ⟨n, x⟩
  · rw [hr] at HC hres
    simp only [Option.bind_none] at hres
    subst hres
    clear hr hb0 b0
    go_enter Tryd.func102, Tryd.ntmps102
    go_wp2_with (go_at_call 107; refine HC.out.mono ?_; rintro e1 w1 ⟨ho, rfl⟩; have HO := Aside0.mk ho; clear ho)
    exact ⟨rfl, ((Only.refl _ w).alloc _).trans HO.out, rfl⟩
  · rw [hr] at HC hres
    simp only [Option.bind_some] at hres
    clear hr
    go_enter Tryd.func102, Tryd.ntmps102
    go_upto_region 2 with (go_at_call 107; refine HC.out.mono ?_; rintro e1 w1 ⟨ho, rfl, hx⟩; have hL := HL.out; have HO := Aside0.mk ho; have HX := Aside0.mk hx; have Z1 := Aside0.mk (HZ.out.only ho (by omega)); clear ho hx hL)
    obtain ⟨hb, hhb⟩ : ∃ hb, w1.heap.size = hb := ⟨_, rfl⟩
    have O1 := Aside0.mk (((Only.refl (fun k => k = rb) w).alloc _).trans HO.out)
    have hz1 : b0 < hb := by have := HO.out.size; rw [World.size_alloc] at this; omega
    have X2 := Aside0.mk (HX.out.below (below_alloc (Below.refl _ _) (.cells #[.int .i64 8, .int .i64 n, .slice none 0 0, .int .i64 0, .slice none 0 0, .int .i64 0] 58)))
    have Z2 := Aside0.mk (show Blk (w1.alloc (.cells #[.int .i64 8, .int .i64 n, .slice none 0 0, .int .i64 0, .slice none 0 0, .int .i64 0] 58)) b0 _ from by rw [← hb0]; exact Z1.out.only (p := fun _ => False) ((Only.refl _ w1).alloc _) (fun q => q))
    have B2 := Aside0.mk (show Blk (w1.alloc (.cells #[.int .i64 8, .int .i64 n, .slice none 0 0, .int .i64 0, .slice none 0 0, .int .i64 0] 58)) hb [.int .i64 8, .int .i64 n, .slice none 0 0, .int .i64 0, .slice none 0 0, .int .i64 0] from by rw [← hhb]; exact Blk.new w1 _)
    have O2 := Aside0.mk (O1.out.alloc (.cells #[.int .i64 8, .int .i64 n, .slice none 0 0, .int .i64 0, .slice none 0 0, .int .i64 0] 58))
    have hz2 : (w1.alloc (.cells #[.int .i64 8, .int .i64 n, .slice none 0 0, .int .i64 0, .slice none 0 0, .int .i64 0] 58)).heap.size = hb + 1 := by rw [World.size_alloc, hhb]
    rw [hhb]
    try rw [hb0]
    clear HO HX Z1 O1 HZ HC
    generalize w1.alloc (.cells #[.int .i64 8, .int .i64 n, .slice none 0 0, .int .i64 0, .slice none 0 0, .int .i64 0] 58) = w2 at *
    have HI := Aside0.mk (And.intro hb0 (And.intro hz1 hz2))
    clear hb0 hhb hz1 hz2 w1
    have HT := Aside0.mk (term_post X2.out)
    rcases ht : rtrm x with _ | ⟨t, y⟩
    · rw [ht] at HT hres
      simp only [Option.map_none, Option.bind_none] at hres
      subst hres
      clear ht
      go_wp2_with (go_at_call 108; refine HT.out.mono ?_; rintro e1 w3 ⟨ho, rfl⟩; have HO := Aside0.mk ho; clear ho)
      exact ⟨rfl, O2.out.trans HO.out, rfl⟩
    · rw [ht] at HT hres
      simp only [Option.map_some] at hres
      subst hres
      clear ht
      go_upto_region 3 with (go_at_call 108; refine HT.out.mono ?_; rintro e1 w3 ⟨ho, rfl, hx⟩; have hL := HL.out; have hI := HI.out; have HO := Aside0.mk ho; have HX := Aside0.mk hx; have B3 := Aside0.mk (B2.out.only ho (by omega)); have Z3 := Aside0.mk (Z2.out.only ho (by omega)); have b5 := B3.out.cell 5 _ rfl; have y5 := B3.out.frozen 5; clear ho hx hL hI)
      have hL := HL.out
      have hI := HI.out
      have o6 := ((Only.refl (fun k => k = hb) w3).setCell (ad := ⟨hb, 5, none⟩) rfl (.int .i64 t))
      have B6 := Aside0.mk (B3.out.set 5 (.int .i64 t))
      have Z6 := Aside0.mk (Z3.out.far (a := ⟨hb, 5, none⟩) (by show hb ≠ b0; omega) (.int .i64 t))
      have X6 := Aside0.mk (HX.out.only o6 (by omega) (by omega))
      have O6 := Aside0.mk ((O2.out.trans HO.out).setNew (ad := ⟨hb, 5, none⟩) (by show w.heap.size ≤ hb; omega) (.int .i64 t))
      clear HT HO HX B3 Z3 b5 y5 B2 Z2 X2 O2 hL hI o6
      generalize w3.setCell ⟨hb, 5, none⟩ (.int .i64 t) = w6 at *
      have q0 := B6.out.cell 0 _ rfl
      have q1 := B6.out.cell 1 _ rfl
      have q2 := B6.out.cell 2 _ rfl
      have q3 := B6.out.cell 3 _ rfl
      have q4 := B6.out.cell 4 _ rfl
      have q5 := B6.out.cell 5 _ rfl
      have z0 := Z6.out.cell 0 _ rfl
      have z1 := Z6.out.cell 1 _ rfl
      have z2 := Z6.out.cell 2 _ rfl
      have z3 := Z6.out.cell 3 _ rfl
      have z4 := Z6.out.cell 4 _ rfl
      have z5 := Z6.out.cell 5 _ rfl
      have y0 := Z6.out.frozen 0
      have y1 := Z6.out.frozen 1
      have y2 := Z6.out.frozen 2
      have y3 := Z6.out.frozen 3
      have y4 := Z6.out.frozen 4
      have y5 := Z6.out.frozen 5
      go_wp2
      change bodyPost _ _ _ _ _ (put6 w6 b0 (.int .i64 8) (.int .i64 n) (.slice none 0 0) (.int .i64 0) (.slice none 0 0) (.int .i64 t))
      have B8 := put6_blk Z6.out (.int .i64 8) (.int .i64 n) (.slice none 0 0) (.int .i64 0) (.slice none 0 0) (.int .i64 t)
      have O8 := put6_only w6 b0 (.int .i64 8) (.int .i64 n) (.slice none 0 0) (.int .i64 0) (.slice none 0 0) (.int .i64 t)
      clear q0 q1 q2 q3 q4 q5 z0 z1 z2 z3 z4 z5 y0 y1 y2 y3 y4 y5
      generalize put6 w6 b0 (.int .i64 8) (.int .i64 n) (.slice none 0 0) (.int .i64 0) (.slice none 0 0) (.int .i64 t) = w8 at *
      have x0 := B8.cell 0 _ rfl
      have x1 := B8.cell 1 _ rfl
      have x2 := B8.cell 2 _ rfl
      have x3 := B8.cell 3 _ rfl
      have x4 := B8.cell 4 _ rfl
      have x5 := B8.cell 5 _ rfl
      refine bodyPost_ret (v := .agg #[.int .i64 8, .int .i64 n, .slice none 0 0, .int .i64 0, .slice none 0 0, .int .i64 t]) ?_ rfl ?_
      · simp [results, Tryd.results102, go_sem, x0, x1, x2, x3, x4, x5]
      · clear x0 x1 x2 x3 x4 x5 B8
        have hL := HL.out
        have hI := HI.out
        exact ⟨own_only O6.out O8 (by omega), ⟨_, _, rfl, Kd.R_nil _ _ _ _ _, Kd.R_nil _ _ _ _ _⟩, X6.out.only O8 (by omega) (by omega)⟩
set_option maxHeartbeats 400000 in
set_option maxRecDepth 100000 in
theorem crypto_post {w0 w : World} {rb : Nat} {l : List Int} (h : Rdx w0 w rb l) :
    Calls Tryd.prog 100 #[.pointer (some ⟨rb, 0, none⟩)] w (FrmP w0 w rb ((rnum l).bind fun a => (rnum a.2).bind fun n => (rbyt n.2 n.1).map fun d => (⟨6, 0, [], a.1, d.1, 0⟩, d.2))) := by
  have HC := Aside0.mk (number_post (h.below (w' := w.alloc (.cells #[.int .i64 0, .int .i64 0, .slice none 0 0, .int .i64 0, .slice none 0 0, .int .i64 0] 58)) (below_alloc (Below.refl _ _) _)))
  have HL := Aside0.mk (show rb < w.heap.size ∧ w0.heap.size ≤ rb from ⟨h.lt, h.lo⟩)
  have HZ := Aside0.mk (Blk.new w [.int .i64 0, .int .i64 0, .slice none 0 0, .int .i64 0, .slice none 0 0, .int .i64 0])
  clear h
  obtain ⟨b0, hb0⟩ : ∃ b0, w.heap.size = b0 := ⟨_, rfl⟩
  generalize hres : ((rnum l).bind fun a => (rnum a.2).bind fun n => (rbyt n.2 n.1).map fun d => ((⟨6, 0, [], a.1, d.1, 0⟩ : S58), d.2)) = res
  rcases hr : rnum l with _ | ⟨n, x⟩
  · rw [hr] at HC hres
    simp only [Option.bind_none] at hres
    subst hres
    clear hr hb0 b0
    go_enter Tryd.func100, Tryd.ntmps100
    go_wp2_with (go_at_call 107; refine HC.out.mono ?_; rintro e1 w1 ⟨ho, rfl⟩; have HO := Aside0.mk ho; clear ho)
    exact ⟨rfl, ((Only.refl _ w).alloc _).trans HO.out, rfl⟩
  · rw [hr] at HC hres
    simp only [Option.bind_some] at hres
    clear hr
    go_enter Tryd.func100, Tryd.ntmps100
    go_upto_region 2 with (go_at_call 107; refine HC.out.mono ?_; rintro e1 w1 ⟨ho, rfl, hx⟩; have hL := HL.out; have HO := Aside0.mk ho; have HX := Aside0.mk hx; have Z1 := Aside0.mk (HZ.out.only ho (by omega)); clear ho hx hL)
    obtain ⟨hb, hhb⟩ : ∃ hb, w1.heap.size = hb := ⟨_, rfl⟩
    have O1 := Aside0.mk (((Only.refl (fun k => k = rb) w).alloc _).trans HO.out)
    have hz1 : b0 < hb := by have := HO.out.size; rw [World.size_alloc] at this; omega
    have X2 := Aside0.mk (HX.out.below (below_alloc (Below.refl _ _) (.cells #[.int .i64 6, .int .i64 0, .slice none 0 0, .int .i64 n, .slice none 0 0, .int .i64 0] 58)))
    have Z2 := Aside0.mk (show Blk (w1.alloc (.cells #[.int .i64 6, .int .i64 0, .slice none 0 0, .int .i64 n, .slice none 0 0, .int .i64 0] 58)) b0 _ from by rw [← hb0]; exact Z1.out.only (p := fun _ => False) ((Only.refl _ w1).alloc _) (fun q => q))
    have B2 := Aside0.mk (show Blk (w1.alloc (.cells #[.int .i64 6, .int .i64 0, .slice none 0 0, .int .i64 n, .slice none 0 0, .int .i64 0] 58)) hb [.int .i64 6, .int .i64 0, .slice none 0 0, .int .i64 n, .slice none 0 0, .int .i64 0] from by rw [← hhb]; exact Blk.new w1 _)
    have O2 := Aside0.mk (O1.out.alloc (.cells #[.int .i64 6, .int .i64 0, .slice none 0 0, .int .i64 n, .slice none 0 0, .int .i64 0] 58))
    have hz2 : (w1.alloc (.cells #[.int .i64 6, .int .i64 0, .slice none 0 0, .int .i64 n, .slice none 0 0, .int .i64 0] 58)).heap.size = hb + 1 := by rw [World.size_alloc, hhb]
    rw [hhb]
    try rw [hb0]
    clear HO HX Z1 O1 HZ HC
    generalize w1.alloc (.cells #[.int .i64 6, .int .i64 0, .slice none 0 0, .int .i64 n, .slice none 0 0, .int .i64 0] 58) = w2 at *
    have HI := Aside0.mk (And.intro hb0 (And.intro hz1 hz2))
    clear hb0 hhb hz1 hz2 w1
    have HT := Aside0.mk (number_post X2.out)
    rcases ht : rnum x with _ | ⟨m, y⟩
    · rw [ht] at HT hres
      simp only [Option.map_none, Option.bind_none] at hres
      subst hres
      clear ht
      go_wp2_with (go_at_call 107; refine HT.out.mono ?_; rintro e1 w3 ⟨ho, rfl⟩; have HO := Aside0.mk ho; clear ho)
      exact ⟨rfl, O2.out.trans HO.out, rfl⟩
    · have hm := rnum_nn (X2.out.by_) ht
      rw [ht] at HT hres
      simp only [Option.bind_some] at hres
      clear ht
      have HM := Aside0.mk hm
      clear hm
      rcases hd : rbyt y m with _ | ⟨d, z⟩
      · have HD := Aside0.mk hd
        rw [hd] at hres
        simp only [Option.map_none] at hres
        subst hres
        clear hd
        go_wp2_with (first | (go_at_call 107; refine HT.out.mono ?_; rintro e1 w3 ⟨ho, rfl, hx⟩; have HO := Aside0.mk ho; have HX := Aside0.mk hx; clear ho hx) | (go_at_call 105; have HB := bytes_post HX.out m HM.out; rw [HD.out] at HB; refine HB.mono ?_; rintro e2 w4 ⟨ho2, rfl⟩; have HO2 := Aside0.mk ho2; clear ho2 HB))
        exact ⟨rfl, (O2.out.trans HO.out).trans HO2.out, rfl⟩
      · have HD := Aside0.mk hd
        rw [hd] at hres
        simp only [Option.map_some] at hres
        subst hres
        clear hd
        go_upto_region 3 with (first | (go_at_call 107; refine HT.out.mono ?_; rintro e1 w3 ⟨ho, rfl, hx⟩; have HO := Aside0.mk ho; have HX := Aside0.mk hx; clear ho hx) | (go_at_call 105; have HB := bytes_post HX.out m HM.out; rw [HD.out] at HB; refine HB.mono ?_; rintro e2 w4 ⟨ho2, v2, rfl, hR, hx⟩; obtain ⟨A3, c3, e3⟩ := Kd.R_slice hR; obtain ⟨n3, hn3⟩ : ∃ n3, d.length = n3 := ⟨_, rfl⟩; rw [hn3] at e3; clear hn3; subst e3; have hL := HL.out; have hI := HI.out; have HO2 := Aside0.mk ho2; have HX2 := Aside0.mk hx; have HR2 := Aside0.mk hR; have B3 := Aside0.mk ((B2.out.only HO.out (by omega)).only ho2 (by omega)); have Z3 := Aside0.mk ((Z2.out.only HO.out (by omega)).only ho2 (by omega)); have b4 := B3.out.cell 4 _ rfl; have y4 := B3.out.frozen 4; clear ho2 hR hx hL hI HB))
        have hL := HL.out
        have hI := HI.out
        have o6 := ((Only.refl (fun k => k = hb) w4).setCell (ad := ⟨hb, 4, none⟩) rfl (.slice A3 n3 c3))
        have hz3 : hb < w3.heap.size := by have := HO.out.size; omega
        have B6 := Aside0.mk (B3.out.set 4 (.slice A3 n3 c3))
        have Z6 := Aside0.mk (Z3.out.far (a := ⟨hb, 4, none⟩) (by show hb ≠ b0; omega) (.slice A3 n3 c3))
        have X6 := Aside0.mk (HX2.out.only o6 (by omega) (by omega))
        have R6 := Aside0.mk (R_only HR2.out o6 (fun k q => by omega))
        have hz4 : w.heap.size ≤ w3.heap.size ∧ b0 < w3.heap.size := by omega
        have HZ4 := Aside0.mk hz4
        have O6 := Aside0.mk (((O2.out.trans HO.out).trans HO2.out).setNew (ad := ⟨hb, 4, none⟩) (by show w.heap.size ≤ hb; omega) (.slice A3 n3 c3))
        clear HT HO HX HO2 HX2 B3 Z3 b4 y4 B2 Z2 X2 O2 hL hI o6 HR2 hz3 hz4 HD HM
        generalize w4.setCell ⟨hb, 4, none⟩ (.slice A3 n3 c3) = w6 at *
        have q0 := B6.out.cell 0 _ rfl
        have q1 := B6.out.cell 1 _ rfl
        have q2 := B6.out.cell 2 _ rfl
        have q3 := B6.out.cell 3 _ rfl
        have q4 := B6.out.cell 4 _ rfl
        have q5 := B6.out.cell 5 _ rfl
        have z0 := Z6.out.cell 0 _ rfl
        have z1 := Z6.out.cell 1 _ rfl
        have z2 := Z6.out.cell 2 _ rfl
        have z3 := Z6.out.cell 3 _ rfl
        have z4 := Z6.out.cell 4 _ rfl
        have z5 := Z6.out.cell 5 _ rfl
        have y0 := Z6.out.frozen 0
        have y1 := Z6.out.frozen 1
        have y2 := Z6.out.frozen 2
        have y3 := Z6.out.frozen 3
        have y4 := Z6.out.frozen 4
        have y5 := Z6.out.frozen 5
        go_wp2
        change bodyPost _ _ _ _ _ (put6 w6 b0 (.int .i64 6) (.int .i64 0) (.slice none 0 0) (.int .i64 n) (.slice A3 n3 c3) (.int .i64 0))
        have B8 := put6_blk Z6.out (.int .i64 6) (.int .i64 0) (.slice none 0 0) (.int .i64 n) (.slice A3 n3 c3) (.int .i64 0)
        have O8 := put6_only w6 b0 (.int .i64 6) (.int .i64 0) (.slice none 0 0) (.int .i64 n) (.slice A3 n3 c3) (.int .i64 0)
        clear q0 q1 q2 q3 q4 q5 z0 z1 z2 z3 z4 z5 y0 y1 y2 y3 y4 y5
        generalize put6 w6 b0 (.int .i64 6) (.int .i64 0) (.slice none 0 0) (.int .i64 n) (.slice A3 n3 c3) (.int .i64 0) = w8 at *
        have x0 := B8.cell 0 _ rfl
        have x1 := B8.cell 1 _ rfl
        have x2 := B8.cell 2 _ rfl
        have x3 := B8.cell 3 _ rfl
        have x4 := B8.cell 4 _ rfl
        have x5 := B8.cell 5 _ rfl
        refine bodyPost_ret (v := .agg #[.int .i64 6, .int .i64 0, .slice none 0 0, .int .i64 n, .slice A3 n3 c3, .int .i64 0]) ?_ rfl ?_
        · simp [results, Tryd.results100, go_sem, x0, x1, x2, x3, x4, x5]
        · clear x0 x1 x2 x3 x4 x5 B8
          have hL := HL.out
          have hI := HI.out
          have hZ := HZ4.out
          exact ⟨own_only O6.out O8 (by omega), ⟨_, _, rfl, Kd.R_nil _ _ _ _ _, Kd.R_lower (R_only R6.out O8 (fun k q => by omega)) hZ.1⟩, X6.out.only O8 (by omega) (by omega)⟩
set_option maxHeartbeats 1000000 in
set_option maxRecDepth 100000 in
theorem padding_post {w0 w : World} {rb : Nat} {l : List Int} (h : Rdx w0 w rb l) :
    Calls Tryd.prog 97 #[.pointer (some ⟨rb, 0, none⟩)] w (FrmP w0 w rb (some (⟨0, ((padF l).1 : Int) + 1, [], 0, [], 0⟩, (padF l).2))) := by
  have HL := Aside0.mk (show rb < w.heap.size ∧ w0.heap.size ≤ rb ∧ l.length ≤ 100000 from ⟨h.lt, h.lo, by obtain ⟨A, c, h⟩ := h; exact h.lm⟩)
  have X2 := Aside0.mk ((h.below (below_alloc (Below.refl _ _) (.cells #[.int .i64 0, .int .i64 0, .slice none 0 0, .int .i64 0, .slice none 0 0, .int .i64 0] 58))).below (below_alloc (Below.refl _ _) (.cells #[.int .i64 0, .int .i64 1, .slice none 0 0, .int .i64 0, .slice none 0 0, .int .i64 0] 58)))
  have Z1 := Blk.new w [.int .i64 0, .int .i64 0, .slice none 0 0, .int .i64 0, .slice none 0 0, .int .i64 0]
  have B2 := Blk.new (w.alloc (.cells #[.int .i64 0, .int .i64 0, .slice none 0 0, .int .i64 0, .slice none 0 0, .int .i64 0] 58)) [.int .i64 0, .int .i64 1, .slice none 0 0, .int .i64 0, .slice none 0 0, .int .i64 0]
  have Z2 := Z1.only (p := fun _ => False) ((Only.refl _ _).alloc (.cells #[.int .i64 0, .int .i64 1, .slice none 0 0, .int .i64 0, .slice none 0 0, .int .i64 0] 58)) (fun q => q)
  have O2 := ((Only.refl (fun k => k = rb) w).alloc (.cells #[.int .i64 0, .int .i64 0, .slice none 0 0, .int .i64 0, .slice none 0 0, .int .i64 0] 58)).alloc (.cells #[.int .i64 0, .int .i64 1, .slice none 0 0, .int .i64 0, .slice none 0 0, .int .i64 0] 58)
  rw [World.size_alloc] at B2
  have HB2 := Aside0.mk B2
  have HZ2 := Aside0.mk Z2
  have HO2 := Aside0.mk O2
  clear h B2 Z1 Z2 O2
  go_enter Tryd.func97, Tryd.ntmps97
  go_wp2
  go_loopg [10] l.length (fun gg v10 wr => ∃ (n : Nat) (x : List Int), x.length ≤ gg ∧ Aside0 (n + x.length ≤ l.length) ∧ Aside0 (padF l = (n + (padF x).1, (padF x).2)) ∧ Aside0 (Rdx w0 wr rb x) ∧ Aside0 (Blk wr (w.heap.size + 1) [.int .i64 0, .int .i64 ((n + 1 : Nat) : Int), .slice none 0 0, .int .i64 0, .slice none 0 0, .int .i64 0]) ∧ Aside0 (Blk wr w.heap.size [.int .i64 0, .int .i64 0, .slice none 0 0, .int .i64 0, .slice none 0 0, .int .i64 0]) ∧ Aside0 (Only (fun k => k = rb) w wr))
  case atStart => exact ⟨0, l, Nat.le_refl _, ⟨by omega⟩, ⟨by simp⟩, X2, HB2, HZ2, HO2⟩
  case round =>
    obtain ⟨n, x, hg, hn, HP, HX, B3, Z3, O3⟩ := hrel
    clear X2 HB2 HZ2 HO2
    obtain ⟨A, c, hx⟩ := HX.out
    have c0 := hx.c0
    have HH := Aside0.mk hx
    clear hx HX
    by_cases hz : ∃ t, x = 0 :: t
    · obtain ⟨t, rfl⟩ := hz
      have HG := Aside0.mk hg
      obtain ⟨ad, rfl, hc⟩ := Kd.at_int HH.out.C 0 (by omega) (by simp)
      replace hc := pw_cell_below HH.out.bl hc
      simp only [rd, Int.toNat_zero, List.getD_cons_zero] at hc
      rw [show ad.add 0 = ad from rfl] at hc
      obtain ⟨i05, hi5, _, hsz5, _⟩ := info_parts info5
      obtain ⟨A5, hs5, hR5, hc5⟩ := print_drop_of (P := Tryd.prog) (Value.int .u8) (0 : Int) 22 5 .i64 Tryd.underlying22 hi5 hsz5 (some ad) c (0 :: t) 1 (by omega) (by simp; omega) HH.out.lc
      simp only [Int.toNat_one, List.drop_succ_cons, List.drop_zero] at hs5 hR5 hc5
      have HC5 := Aside0.mk (show Kd.C (Kd.int .u8) w0 A5 t.length t from Kd.C_of_reads (h1 := fun _ => rfl) (hR5 _ (Kd.reads_of_C HH.out.C)))
      have HCC5 := Aside0.mk hc5
      obtain ⟨m, hm⟩ : ∃ m, (0 :: t).length = m := ⟨_, rfl⟩
      rw [hm] at hs5 c0
      have m0 : decide ((0 : Int) < (m : Int)) = true := decide_eq_true (by simp at hm; omega)
      have m1 : decide (0 < m) = true := decide_eq_true (by simp at hm; omega)
      have m2 : (0 : Int) < (m : Int) := by simp at hm; omega
      have f0 := HH.out.f0
      have b1 := B3.out.cell 1 _ rfl
      have y1 := B3.out.frozen 1
      have hL := HL.out
      have hN := hn.out
      have n1 : ¬ (rb = w.heap.size + 1) := by omega
      have n2 : ¬ (w.heap.size + 1 = rb) := by omega
      have HM := Aside0.mk hm
      clear hi5 hsz5 hR5 hc5 hm hg hL hN
      go_wp2
      go_roundg t.length
      case measure => have := HG.out; simp at this; omega
      case rel =>
        have hL := HL.out
        have o4 := (Only.refl (fun k => k = rb) wr).setCell (ad := ⟨rb, 0, none⟩) rfl (.slice A5 t.length (c - 1))
        have R4 := HH.out.set t HC5.out HCC5.out (by simp) (fun y hy => by simp [hy])
        have B4 := (B3.out.only o4 (by omega)).set 1 (.int .i64 (wrap64 ((n : Int) + 1 + 1)))
        have o5 := (Only.refl (fun k => k = w.heap.size + 1) (wr.setCell ⟨rb, 0, none⟩ (.slice A5 t.length (c - 1)))).setCell (ad := ⟨w.heap.size + 1, 1, none⟩) rfl (.int .i64 (wrap64 ((n : Int) + 1 + 1)))
        have e1 : wrap64 ((n : Int) + 1 + 1) = ((n + 1 + 1 : Nat) : Int) := by have hN := hn.out; simp at hN; unfold wrap64; omega
        have B5 : Blk ((wr.setCell ⟨rb, 0, none⟩ (.slice A5 t.length (c - 1))).setCell ⟨w.heap.size + 1, 1, none⟩ (.int .i64 (wrap64 ((n : Int) + 1 + 1)))) (w.heap.size + 1) [.int .i64 0, .int .i64 ((n + 1 + 1 : Nat) : Int), .slice none 0 0, .int .i64 0, .slice none 0 0, .int .i64 0] := by have h := B4; rw [e1] at h ⊢; exact h
        refine ⟨n + 1, t, Nat.le_refl _, ⟨by have := hn.out; simp at this; omega⟩, ⟨by rw [HP.out, padF, if_pos rfl]; simp; omega⟩, ⟨_, _, R4.only o5 (fun e => by omega) (fun k q => by omega)⟩, ⟨B5⟩, ⟨(Z3.out.only o4 (by omega)).only o5 (by omega)⟩, ⟨((O3.out.trans o4)).setNew (ad := ⟨w.heap.size + 1, 1, none⟩) (by show w.heap.size ≤ w.heap.size + 1; omega) _⟩⟩
    · have hpx : padF x = (0, x) := by
        cases x with
        | nil => rfl
        | cons a t => rw [padF, if_neg (fun e => hz ⟨t, by rw [e]⟩)]
      have HP2 := Aside0.mk (show padF l = (n, x) by rw [HP.out, hpx]; simp)
      clear hpx HP
      have B6 := B3
      have Z6 := Z3
      obtain ⟨hb, hhb⟩ : ∃ hb, w.heap.size + 1 = hb := ⟨_, rfl⟩
      rw [hhb] at B6 ⊢
      obtain ⟨b0, hb0⟩ : ∃ b0, w.heap.size = b0 := ⟨_, rfl⟩
      rw [hb0] at Z6 ⊢
      have HI := Aside0.mk (And.intro hb0 hhb)
      clear B3 Z3 hhb hb0
      have q0 := B6.out.cell 0 _ rfl
      have q1 := B6.out.cell 1 _ rfl
      have q2 := B6.out.cell 2 _ rfl
      have q3 := B6.out.cell 3 _ rfl
      have q4 := B6.out.cell 4 _ rfl
      have q5 := B6.out.cell 5 _ rfl
      have z0 := Z6.out.cell 0 _ rfl
      have z1 := Z6.out.cell 1 _ rfl
      have z2 := Z6.out.cell 2 _ rfl
      have z3 := Z6.out.cell 3 _ rfl
      have z4 := Z6.out.cell 4 _ rfl
      have z5 := Z6.out.cell 5 _ rfl
      have y0 := Z6.out.frozen 0
      have y1 := Z6.out.frozen 1
      have y2 := Z6.out.frozen 2
      have y3 := Z6.out.frozen 3
      have y4 := Z6.out.frozen 4
      have y5 := Z6.out.frozen 5
      cases x with
      | nil =>
        have c0 : wr.cell? ⟨rb, 0, none⟩ = some (.slice A 0 c) := c0
        clear hg hn hz
        go_wp2
        change bodyPost _ _ _ _ _ (put6 wr b0 (.int .i64 0) (.int .i64 ((n + 1 : Nat) : Int)) (.slice none 0 0) (.int .i64 0) (.slice none 0 0) (.int .i64 0))
        have B8 := put6_blk Z6.out (.int .i64 0) (.int .i64 ((n + 1 : Nat) : Int)) (.slice none 0 0) (.int .i64 0) (.slice none 0 0) (.int .i64 0)
        have O8 := put6_only wr b0 (.int .i64 0) (.int .i64 ((n + 1 : Nat) : Int)) (.slice none 0 0) (.int .i64 0) (.slice none 0 0) (.int .i64 0)
        clear q0 q1 q2 q3 q4 q5 z0 z1 z2 z3 z4 z5 y0 y1 y2 y3 y4 y5
        generalize put6 wr b0 (.int .i64 0) (.int .i64 ((n + 1 : Nat) : Int)) (.slice none 0 0) (.int .i64 0) (.slice none 0 0) (.int .i64 0) = w8 at *
        have x0 := B8.cell 0 _ rfl
        have x1 := B8.cell 1 _ rfl
        have x2 := B8.cell 2 _ rfl
        have x3 := B8.cell 3 _ rfl
        have x4 := B8.cell 4 _ rfl
        have x5 := B8.cell 5 _ rfl
        refine bodyPost_ret (v := .agg #[.int .i64 0, .int .i64 ((n + 1 : Nat) : Int), .slice none 0 0, .int .i64 0, .slice none 0 0, .int .i64 0]) ?_ rfl ?_
        · simp [results, Tryd.results97, go_sem, x0, x1, x2, x3, x4, x5]
        · clear x0 x1 x2 x3 x4 x5 B8
          have hL := HL.out
          have hI := HI.out
          refine ⟨own_only O3.out O8 (by omega), ?_⟩
          rw [HP2.out]
          exact ⟨⟨_, _, rfl, Kd.R_nil _ _ _ _ _, Kd.R_nil _ _ _ _ _⟩, _, _, HH.out.only O8 (fun e => by omega) (fun k q => by omega)⟩
      | cons a t =>
        obtain ⟨ad, rfl, hc⟩ := Kd.at_int HH.out.C 0 (by omega) (by simp)
        replace hc := pw_cell_below HH.out.bl hc
        simp only [rd, Int.toNat_zero, List.getD_cons_zero] at hc
        rw [show ad.add 0 = ad from rfl] at hc
        have ha : a ≠ 0 := fun e => hz ⟨t, by rw [e]⟩
        have ha0 : (a == 0) = false := by simpa using ha
        obtain ⟨m, hm⟩ : ∃ m, (a :: t).length = m := ⟨_, rfl⟩
        rw [hm] at c0
        have m0 : decide ((0 : Int) < (m : Int)) = true := decide_eq_true (by simp at hm; omega)
        have m1 : decide (0 < m) = true := decide_eq_true (by simp at hm; omega)
        have m2 : (0 : Int) < (m : Int) := by simp at hm; omega
        clear hg hn hz hm ha
        go_wp2
        change bodyPost _ _ _ _ _ (put6 wr b0 (.int .i64 0) (.int .i64 ((n + 1 : Nat) : Int)) (.slice none 0 0) (.int .i64 0) (.slice none 0 0) (.int .i64 0))
        have B8 := put6_blk Z6.out (.int .i64 0) (.int .i64 ((n + 1 : Nat) : Int)) (.slice none 0 0) (.int .i64 0) (.slice none 0 0) (.int .i64 0)
        have O8 := put6_only wr b0 (.int .i64 0) (.int .i64 ((n + 1 : Nat) : Int)) (.slice none 0 0) (.int .i64 0) (.slice none 0 0) (.int .i64 0)
        clear q0 q1 q2 q3 q4 q5 z0 z1 z2 z3 z4 z5 y0 y1 y2 y3 y4 y5
        generalize put6 wr b0 (.int .i64 0) (.int .i64 ((n + 1 : Nat) : Int)) (.slice none 0 0) (.int .i64 0) (.slice none 0 0) (.int .i64 0) = w8 at *
        have x0 := B8.cell 0 _ rfl
        have x1 := B8.cell 1 _ rfl
        have x2 := B8.cell 2 _ rfl
        have x3 := B8.cell 3 _ rfl
        have x4 := B8.cell 4 _ rfl
        have x5 := B8.cell 5 _ rfl
        refine bodyPost_ret (v := .agg #[.int .i64 0, .int .i64 ((n + 1 : Nat) : Int), .slice none 0 0, .int .i64 0, .slice none 0 0, .int .i64 0]) ?_ rfl ?_
        · simp [results, Tryd.results97, go_sem, x0, x1, x2, x3, x4, x5]
        · clear x0 x1 x2 x3 x4 x5 B8
          have hL := HL.out
          have hI := HI.out
          refine ⟨own_only O3.out O8 (by omega), ?_⟩
          rw [HP2.out]
          exact ⟨⟨_, _, rfl, Kd.R_nil _ _ _ _ _, Kd.R_nil _ _ _ _ _⟩, _, _, HH.out.only O8 (fun e => by omega) (fun k q => by omega)⟩
end Go.Proofs.YtbcleckapamicaaDoor.Fd
