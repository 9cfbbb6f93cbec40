/- A part of the proof of the law HeaderBack: QHex5, QHex6, QHex7, QHex8, QHex9, QVax2, VaP, HeP, HrP, QHcx0, QTlx0, QTlx1. -/
import Derived.Test.YtbcleckapamicaaDoorZHb03
import Derived.Test.YtbcleckapamicaaDoorZHb02
import Derived.Test.YtbcleckapamicaaDoorZHb06
import Derived.Test.YtbcleckapamicaaDoorZHb04
import Derived.Test.YtbcleckapamicaaDoorZHb05
import Derived.Test.YtbcleckapamicaaDoorProg
import Derived.Below
import Derived.Deep.Draws
import Derived.Deep.AppendLies
import Derived.Maps.AppendAt
import Derived.OwnWalk
import Derived.Laws.BytesArg
import Derived.Laws.MakeOwn
import Derived.Laws.OwnMore
import Derived.Deep.OwnRows
import Derived.Tactics
import Derived.Lib.ConvBytes
import Derived.Laws.Slices
import Derived.WalkKit
import Derived.KernelRfl
import Derived.RowKit3
import Derived.Deep.LoopGhost
import Derived.Deep.QuietTactic
import Derived.BigQuiet
import Derived.WideLaws
import Derived.Deep.DeepCutAuto
import Derived.Deep.CutBlock
import Derived.Deep.RegionHeld3
import Derived.Laws.Rows
import Derived.Lib.AppendStr
import Derived.ArgAppend
import Derived.Laws.IdiomCopy
import Derived.OrdersHeld
import Derived.Laws.BitsLemmas
import Derived.RowKit
import Derived.Test.YtbcleckapamicaaDoorZHb00
import Derived.Test.YtbcleckapamicaaDoorZHb01
namespace Go.Proofs.YtbcleckapamicaaDoor.QHe
open Go.RowKit Go.Proofs.YtbcleckapamicaaDoorW.PrintWords Go.Proofs.YtbcleckapamicaaDoorW.PrintLast Go.Proofs.YtbcleckapamicaaDoorW.PrintMore
attribute [local go_sem] max2_int min2_int max_two min_two max_three min_three max_four min_four
set_option linter.unusedVariables false
set_option linter.unusedSimpArgs false
end Go.Proofs.YtbcleckapamicaaDoor.QHe
namespace Go.Proofs.YtbcleckapamicaaDoor.QHe
open Go.RowKit Go.Proofs.YtbcleckapamicaaDoorW.PrintWords Go.Proofs.YtbcleckapamicaaDoorW.PrintLast Go.Proofs.YtbcleckapamicaaDoorW.PrintMore
attribute [local go_sem] max2_int min2_int max_two min_two max_three min_three max_four min_four
set_option linter.unusedVariables false
set_option linter.unusedSimpArgs false
end Go.Proofs.YtbcleckapamicaaDoor.QHe
namespace Go.Proofs.YtbcleckapamicaaDoor.QHe
open Go.RowKit Go.Proofs.YtbcleckapamicaaDoorW.PrintWords Go.Proofs.YtbcleckapamicaaDoorW.PrintLast Go.Proofs.YtbcleckapamicaaDoorW.PrintMore
attribute [local go_sem] max2_int min2_int max_two min_two max_three min_three max_four min_four
set_option linter.unusedVariables false
set_option linter.unusedSimpArgs false
open Go.Proofs.YtbcleckapamicaaDoor.Gv (TB TB.below TB.alloc TB.drew TB.drewN)
set_option hygiene false
local macro "pl110_" : term => `((if (t193.length : Int) = 11 then (if 0 < (t193.length : Int) then (if (rd t193 0) = 69 then (if 9 < (t193.length : Int) then (if (rd t193 9) = 1 then (if 10 < (t193.length : Int) then (some ((rd t193 10) == 2)) else (none)) else (some false)) else (none)) else (some false)) else (none)) else (some false)))
local macro "pl111_" : term => `((by first | (with_reducible assumption) | assumption))
local macro "pl112_" : term => `((by (try simp only [List.map_toArray, List.map_cons, List.map_nil]); first | done | rfl | (simp only [List.length_drop, List.length_take]; rfl)))
local macro "ll110_" : tactic => `(tactic| (exact ⟨by first | rfl | (simp [errW_none, errW_some] <;> rfl) | (simp [*, errW_none, errW_some] <;> rfl), by qc0_⟩))
local macro "ll111_" : tactic => `(tactic| (exact ⟨by first | rfl | (simp; done) | (simp [*]; done), by repeat (first | exact Drawn0.refl _ | apply Drawn0.step)⟩))
set_option hygiene true
def shibbolethlaw05_awake.f (k : Nat)  : Option (Bool) := if 8 ≤ 281474976710656 then ((header_Write.f k 3 0 (List.replicate 8 0) ([] : List Int) ([] : List Int) 1 258 2 5).bind fun t193 => (pl110_)) else (none)
theorem shibbolethlaw05_awake.mono : ∀ k, LeO (shibbolethlaw05_awake.f k ) (shibbolethlaw05_awake.f (k + 1) ) := by
 intro  k
 unfold shibbolethlaw05_awake.f
 repeat' first
   | (with_reducible exact header_Write.mono _ _ _ _ _ _ _ _ _ _)
   | (with_reducible exact LeO.refl _)
   | (with_reducible exact LeO.none _)
   | (with_reducible refine LeO.ite ?_ ?_)
   | (with_reducible refine LeO.bind ?_ (fun _ => ?_))
   | exact header_Write.mono _ _ _ _ _ _ _ _ _ _
   | exact LeO.none _
   | refine LeO.ite ?_ ?_
   | refine LeO.bind ?_ (fun _ => ?_)
set_option maxHeartbeats 8000000 in
set_option maxRecDepth 100000 in
theorem shibbolethlaw05_awake.calls (k : Nat)  (r : Bool) (w : World) (ht : TB w) (h : shibbolethlaw05_awake.f k  = some r) :
  Calls Tryd.prog 38 #[] w fun e w' => e = .returned (.bool r) ∧ Below w.heap.size w w' := by
 have HT := Aside0.mk ht
 clear ht
 have hu46 := Tryd.underlying46
 have HB := Aside0.mk (Below.refl w.heap.size w)
 have H : (if 8 ≤ 281474976710656 then ((header_Write.f k 3 0 (List.replicate 8 0) ([] : List Int) ([] : List Int) 1 258 2 5).bind fun t193 => (pl110_)) else (none)) = some r := h
 clear h
 by_cases c1 : 8 ≤ 281474976710656
 ·rw [if_pos c1] at H
  have c1b0 := eq_true c1
  have c1b1 : decide (8 ≤ 281474976710656) = true := decide_eq_true c1
  clear c1
  obtain ⟨y190, hy190⟩ : ∃ y_ : List Int, y_ = (List.replicate 8 0) := ⟨_, rfl⟩
  replace H : ((header_Write.f k 3 0 y190 ([] : List Int) ([] : List Int) 1 258 2 5).bind fun t193 => (pl110_)) = some r := by first | (rw [hy190]; with_reducible exact H) | (have H2_ := (Option.bind_some _ _).symm.trans H; rw [hy190]; with_reducible exact H2_) | (have H2_ := (Option.bind_some _ _).symm.trans H; with_reducible exact H2_) | with_reducible exact H | (rw [hy190]; exact H) | exact H
  have Ny190 := Aside0.mk hy190
  clear hy190
  replace H := Option.bind_eq_some_iff.mp H
  obtain ⟨t193, A20, H⟩ := H
  replace H : (pl110_) = some r := H
  have A2 := Aside0.mk A20
  clear A20
  by_cases c3 : (t193.length : Int) = 11
  ·rw [if_pos c3] at H
   have c3b0 : ((t193.length : Int) == 11) = true := beq_iff_eq.mpr c3
   have c3b1 : ((t193.length : Int) != 11) = false := bne_eq_false_iff_eq.mpr c3
   clear c3
   by_cases c4 : 0 < (t193.length : Int)
   ·rw [if_pos c4] at H
    have c4b0 : decide (0 < (t193.length : Int)) = true := decide_eq_true c4
    have c4b1 : decide (0 < t193.length) = true := decide_eq_true (by omega)
    clear c4
    by_cases c5 : (rd t193 0) = 69
    ·rw [if_pos c5] at H
     have c5b0 : ((rd t193 0) == 69) = true := beq_iff_eq.mpr c5
     have c5b1 : ((rd t193 0) != 69) = false := bne_eq_false_iff_eq.mpr c5
     clear c5
     by_cases c6 : 9 < (t193.length : Int)
     ·rw [if_pos c6] at H
      have c6b0 : decide (9 < (t193.length : Int)) = true := decide_eq_true c6
      have c6b1 : decide (9 < t193.length) = true := decide_eq_true (by omega)
      clear c6
      by_cases c7 : (rd t193 9) = 1
      ·rw [if_pos c7] at H
       have c7b0 : ((rd t193 9) == 1) = true := beq_iff_eq.mpr c7
       have c7b1 : ((rd t193 9) != 1) = false := bne_eq_false_iff_eq.mpr c7
       clear c7
       by_cases c8 : 10 < (t193.length : Int)
       ·rw [if_pos c8] at H
        have c8b0 : decide (10 < (t193.length : Int)) = true := decide_eq_true c8
        have c8b1 : decide (10 < t193.length) = true := decide_eq_true (by omega)
        clear c8
        obtain rfl := Option.some.inj H
        go_enter Tryd.func38, Tryd.ntmps38
        go_wp2_with (first | ((with_reducible refine gate_dst (N := 2) rfl ?_); refine Kd.R_make (Kd.int .u8) _ 5 rfl (N := 2) rfl 22 _ _ rfl 8 rfl rfl Tryd.underlying22 (.int .u8 0) 1 info5 rfl (by decide) (by omega) 0 (ok := fun _ => True) (okp := fun _ => True) rfl (fun _ hk => hk) trivial (by omega) (by omega) (Below.refl _ _) (Nat.le_refl _) ?_; intro v191 w9 ho10 hb hg_ hnew_; clear hg_ hnew_; (first | rw [← Ny190.out] at ho10 | (simp only [Int.reduceToNat] at ho10; rw [← Ny190.out] at ho10)); have n0_ := Aside0.mk (Kd.R_lower ho10 (below_size (by qc0_))); have n1_ := Aside0.mk (below_step (by qc0_) hb); clear HB; have HO192 := n0_; have HB := n1_; clear n0_ n1_; clear hb ho10; obtain ⟨Ao11, co11, eo11⟩ := Kd.R_slice HO192.out; subst eo11) | ((with_reducible refine gate_callee (f := 35) rfl ?_); refine goesL_ (some 4) rfl rfl Tryd.func35 (by kernel_rfl) rfl #[.agg #[.int .i64 3, .int .i64 0, .slice Ao11 y190.length co11, .slice none 0 0, .slice none 0 0, .int .i64 1, .int .i64 258, .int .i64 2], .int .i64 5] rfl (pl112_) ?_; (refine (header_Write.calls k 3 0 (fun k_ => some k_ = (.slice Ao11 y190.length co11 : Value).ownBlock) _ _ y190 _ _ ([] : List Int) _ _ ([] : List Int) 1 258 2 5 t193 _ ?side1 ?side2 ?side3 ?side4 ?side5 ?sideT A2.out).mono ?_); (case sideT => repeat (first | exact HT.out | exact TB.below HT.out HB.out | exact TB.below HT.out HBW.out | (with_reducible refine TB.alloc ?_ _) | (with_reducible refine TB.drewN ?_ _) | (with_reducible refine TB.drew ?_))); (case side1 => exact Kd.R_V (Kd.R_tight rfl (HO192.out))); (case side2 => exact Kd.C_nil _ _); (case side3 => exact Nat.le_refl _); (case side4 => exact Kd.C_nil _ _); (case side5 => exact Nat.le_refl _); rintro e w12 ⟨v194, rfl, ho0, hb⟩; refine ⟨_, rfl, ?_⟩; have n0_ := Aside0.mk (Kd.R_elder' (by qR_; exact HO192.out) (Kd.R_base ho0) hb); have n1_ := Aside0.mk (Kd.R_lower (Kd.R_new' (Kd.R_mono (ok' := fun k_ => True) ho0 (fun _ hk_ => trivial)) (Kd.R_lt (by qR_; exact HO192.out))) (below_size (by qc0_))); have n2_ := Aside0.mk (below_step (by qc0_) hb); clear HO192; clear HB; have HO192 := n0_; have HO195 := n1_; have HB := n2_; clear n0_ n1_ n2_; (try clear hb); (try clear hb2); (try clear hk); (try clear hi); (try clear ho0); obtain ⟨Ao13, co13, eo13⟩ := Kd.R_slice HO195.out; subst eo13; have p196 : 0 ≤ (0 : Int) := (by omega); have q196 : 0 < (t193.length : Int) := of_decide_eq_true (pl111_); obtain ⟨ad196, e196, hx196_0⟩ := Kd.at_int (Kd.R_reads' HO195.out).2.2 0 p196 q196; cases e196; have qi196 : (0 < t193.length) = True := eq_true (by omega); (try rw [show ((0 : Int)).toNat = 0 from rfl] at hx196_0); (try rw [Addr.add_zero'] at hx196_0); replace p196 := eq_true p196; replace q196 := eq_true q196; have p197 : 0 ≤ (9 : Int) := (by omega); have q197 : 9 < (t193.length : Int) := of_decide_eq_true (pl111_); obtain ⟨ad197, e197, hx197_0⟩ := Kd.at_int (Kd.R_reads' HO195.out).2.2 9 p197 q197; obtain rfl : ad196 = ad197 := (by injection e197); (try simp only [show (9 : Int).toNat = 9 from rfl, Nat.reduceMul, Nat.reduceEqDiff, Go.Addr.add, ↓reduceIte] at hx197_0); have qi197 : (9 < t193.length) = True := eq_true (by omega); (try rw [show ((9 : Int)).toNat = 9 from rfl] at hx197_0); replace p197 := eq_true p197; replace q197 := eq_true q197; have p198 : 0 ≤ (10 : Int) := (by omega); have q198 : 10 < (t193.length : Int) := of_decide_eq_true (pl111_); obtain ⟨ad198, e198, hx198_0⟩ := Kd.at_int (Kd.R_reads' HO195.out).2.2 10 p198 q198; obtain rfl : ad196 = ad198 := (by injection e198); (try simp only [show (10 : Int).toNat = 10 from rfl, Nat.reduceMul, Nat.reduceEqDiff, Go.Addr.add, ↓reduceIte] at hx198_0); have qi198 : (10 < t193.length) = True := eq_true (by omega); (try rw [show ((10 : Int)).toNat = 10 from rfl] at hx198_0); replace p198 := eq_true p198; replace q198 := eq_true q198))
        go_ret
        ll110_
       ·rw [if_neg c8] at H
        exact absurd H (by simp)
      ·rw [if_neg c7] at H
       have c7b0 : ((rd t193 9) == 1) = false := beq_eq_false_iff_ne.mpr c7
       have c7b1 : ((rd t193 9) != 1) = true := bne_iff_ne.mpr c7
       obtain rfl := Option.some.inj H
       go_enter Tryd.func38, Tryd.ntmps38
       go_wp2_with (first | ((with_reducible refine gate_dst (N := 2) rfl ?_); refine Kd.R_make (Kd.int .u8) _ 5 rfl (N := 2) rfl 22 _ _ rfl 8 rfl rfl Tryd.underlying22 (.int .u8 0) 1 info5 rfl (by decide) (by omega) 0 (ok := fun _ => True) (okp := fun _ => True) rfl (fun _ hk => hk) trivial (by omega) (by omega) (Below.refl _ _) (Nat.le_refl _) ?_; intro v191 w14 ho15 hb hg_ hnew_; clear hg_ hnew_; (first | rw [← Ny190.out] at ho15 | (simp only [Int.reduceToNat] at ho15; rw [← Ny190.out] at ho15)); have n0_ := Aside0.mk (Kd.R_lower ho15 (below_size (by qc0_))); have n1_ := Aside0.mk (below_step (by qc0_) hb); clear HB; have HO192 := n0_; have HB := n1_; clear n0_ n1_; clear hb ho15; obtain ⟨Ao16, co16, eo16⟩ := Kd.R_slice HO192.out; subst eo16) | ((with_reducible refine gate_callee (f := 35) rfl ?_); refine goesL_ (some 4) rfl rfl Tryd.func35 (by kernel_rfl) rfl #[.agg #[.int .i64 3, .int .i64 0, .slice Ao16 y190.length co16, .slice none 0 0, .slice none 0 0, .int .i64 1, .int .i64 258, .int .i64 2], .int .i64 5] rfl (pl112_) ?_; (refine (header_Write.calls k 3 0 (fun k_ => some k_ = (.slice Ao16 y190.length co16 : Value).ownBlock) _ _ y190 _ _ ([] : List Int) _ _ ([] : List Int) 1 258 2 5 t193 _ ?side1 ?side2 ?side3 ?side4 ?side5 ?sideT A2.out).mono ?_); (case sideT => repeat (first | exact HT.out | exact TB.below HT.out HB.out | exact TB.below HT.out HBW.out | (with_reducible refine TB.alloc ?_ _) | (with_reducible refine TB.drewN ?_ _) | (with_reducible refine TB.drew ?_))); (case side1 => exact Kd.R_V (Kd.R_tight rfl (HO192.out))); (case side2 => exact Kd.C_nil _ _); (case side3 => exact Nat.le_refl _); (case side4 => exact Kd.C_nil _ _); (case side5 => exact Nat.le_refl _); rintro e w17 ⟨v194, rfl, ho0, hb⟩; refine ⟨_, rfl, ?_⟩; have n0_ := Aside0.mk (Kd.R_elder' (by qR_; exact HO192.out) (Kd.R_base ho0) hb); have n1_ := Aside0.mk (Kd.R_lower (Kd.R_new' (Kd.R_mono (ok' := fun k_ => True) ho0 (fun _ hk_ => trivial)) (Kd.R_lt (by qR_; exact HO192.out))) (below_size (by qc0_))); have n2_ := Aside0.mk (below_step (by qc0_) hb); clear HO192; clear HB; have HO192 := n0_; have HO195 := n1_; have HB := n2_; clear n0_ n1_ n2_; (try clear hb); (try clear hb2); (try clear hk); (try clear hi); (try clear ho0); obtain ⟨Ao18, co18, eo18⟩ := Kd.R_slice HO195.out; subst eo18; have p196 : 0 ≤ (0 : Int) := (by omega); have q196 : 0 < (t193.length : Int) := of_decide_eq_true (pl111_); obtain ⟨ad196, e196, hx196_0⟩ := Kd.at_int (Kd.R_reads' HO195.out).2.2 0 p196 q196; cases e196; have qi196 : (0 < t193.length) = True := eq_true (by omega); (try rw [show ((0 : Int)).toNat = 0 from rfl] at hx196_0); (try rw [Addr.add_zero'] at hx196_0); replace p196 := eq_true p196; replace q196 := eq_true q196; have p197 : 0 ≤ (9 : Int) := (by omega); have q197 : 9 < (t193.length : Int) := of_decide_eq_true (pl111_); obtain ⟨ad197, e197, hx197_0⟩ := Kd.at_int (Kd.R_reads' HO195.out).2.2 9 p197 q197; obtain rfl : ad196 = ad197 := (by injection e197); (try simp only [show (9 : Int).toNat = 9 from rfl, Nat.reduceMul, Nat.reduceEqDiff, Go.Addr.add, ↓reduceIte] at hx197_0); have qi197 : (9 < t193.length) = True := eq_true (by omega); (try rw [show ((9 : Int)).toNat = 9 from rfl] at hx197_0); replace p197 := eq_true p197; replace q197 := eq_true q197))
       go_ret
       ll110_
     ·rw [if_neg c6] at H
      exact absurd H (by simp)
    ·rw [if_neg c5] at H
     have c5b0 : ((rd t193 0) == 69) = false := beq_eq_false_iff_ne.mpr c5
     have c5b1 : ((rd t193 0) != 69) = true := bne_iff_ne.mpr c5
     obtain rfl := Option.some.inj H
     go_enter Tryd.func38, Tryd.ntmps38
     go_wp2_with (first | ((with_reducible refine gate_dst (N := 2) rfl ?_); refine Kd.R_make (Kd.int .u8) _ 5 rfl (N := 2) rfl 22 _ _ rfl 8 rfl rfl Tryd.underlying22 (.int .u8 0) 1 info5 rfl (by decide) (by omega) 0 (ok := fun _ => True) (okp := fun _ => True) rfl (fun _ hk => hk) trivial (by omega) (by omega) (Below.refl _ _) (Nat.le_refl _) ?_; intro v191 w19 ho20 hb hg_ hnew_; clear hg_ hnew_; (first | rw [← Ny190.out] at ho20 | (simp only [Int.reduceToNat] at ho20; rw [← Ny190.out] at ho20)); have n0_ := Aside0.mk (Kd.R_lower ho20 (below_size (by qc0_))); have n1_ := Aside0.mk (below_step (by qc0_) hb); clear HB; have HO192 := n0_; have HB := n1_; clear n0_ n1_; clear hb ho20; obtain ⟨Ao21, co21, eo21⟩ := Kd.R_slice HO192.out; subst eo21) | ((with_reducible refine gate_callee (f := 35) rfl ?_); refine goesL_ (some 4) rfl rfl Tryd.func35 (by kernel_rfl) rfl #[.agg #[.int .i64 3, .int .i64 0, .slice Ao21 y190.length co21, .slice none 0 0, .slice none 0 0, .int .i64 1, .int .i64 258, .int .i64 2], .int .i64 5] rfl (pl112_) ?_; (refine (header_Write.calls k 3 0 (fun k_ => some k_ = (.slice Ao21 y190.length co21 : Value).ownBlock) _ _ y190 _ _ ([] : List Int) _ _ ([] : List Int) 1 258 2 5 t193 _ ?side1 ?side2 ?side3 ?side4 ?side5 ?sideT A2.out).mono ?_); (case sideT => repeat (first | exact HT.out | exact TB.below HT.out HB.out | exact TB.below HT.out HBW.out | (with_reducible refine TB.alloc ?_ _) | (with_reducible refine TB.drewN ?_ _) | (with_reducible refine TB.drew ?_))); (case side1 => exact Kd.R_V (Kd.R_tight rfl (HO192.out))); (case side2 => exact Kd.C_nil _ _); (case side3 => exact Nat.le_refl _); (case side4 => exact Kd.C_nil _ _); (case side5 => exact Nat.le_refl _); rintro e w22 ⟨v194, rfl, ho0, hb⟩; refine ⟨_, rfl, ?_⟩; have n0_ := Aside0.mk (Kd.R_elder' (by qR_; exact HO192.out) (Kd.R_base ho0) hb); have n1_ := Aside0.mk (Kd.R_lower (Kd.R_new' (Kd.R_mono (ok' := fun k_ => True) ho0 (fun _ hk_ => trivial)) (Kd.R_lt (by qR_; exact HO192.out))) (below_size (by qc0_))); have n2_ := Aside0.mk (below_step (by qc0_) hb); clear HO192; clear HB; have HO192 := n0_; have HO195 := n1_; have HB := n2_; clear n0_ n1_ n2_; (try clear hb); (try clear hb2); (try clear hk); (try clear hi); (try clear ho0); obtain ⟨Ao23, co23, eo23⟩ := Kd.R_slice HO195.out; subst eo23; have p196 : 0 ≤ (0 : Int) := (by omega); have q196 : 0 < (t193.length : Int) := of_decide_eq_true (pl111_); obtain ⟨ad196, e196, hx196_0⟩ := Kd.at_int (Kd.R_reads' HO195.out).2.2 0 p196 q196; cases e196; have qi196 : (0 < t193.length) = True := eq_true (by omega); (try rw [show ((0 : Int)).toNat = 0 from rfl] at hx196_0); (try rw [Addr.add_zero'] at hx196_0); replace p196 := eq_true p196; replace q196 := eq_true q196))
     go_ret
     ll110_
   ·rw [if_neg c4] at H
    exact absurd H (by simp)
  ·rw [if_neg c3] at H
   have c3b0 : ((t193.length : Int) == 11) = false := beq_eq_false_iff_ne.mpr c3
   have c3b1 : ((t193.length : Int) != 11) = true := bne_iff_ne.mpr c3
   obtain rfl := Option.some.inj H
   go_enter Tryd.func38, Tryd.ntmps38
   go_wp2_with (first | ((with_reducible refine gate_dst (N := 2) rfl ?_); refine Kd.R_make (Kd.int .u8) _ 5 rfl (N := 2) rfl 22 _ _ rfl 8 rfl rfl Tryd.underlying22 (.int .u8 0) 1 info5 rfl (by decide) (by omega) 0 (ok := fun _ => True) (okp := fun _ => True) rfl (fun _ hk => hk) trivial (by omega) (by omega) (Below.refl _ _) (Nat.le_refl _) ?_; intro v191 w24 ho25 hb hg_ hnew_; clear hg_ hnew_; (first | rw [← Ny190.out] at ho25 | (simp only [Int.reduceToNat] at ho25; rw [← Ny190.out] at ho25)); have n0_ := Aside0.mk (Kd.R_lower ho25 (below_size (by qc0_))); have n1_ := Aside0.mk (below_step (by qc0_) hb); clear HB; have HO192 := n0_; have HB := n1_; clear n0_ n1_; clear hb ho25; obtain ⟨Ao26, co26, eo26⟩ := Kd.R_slice HO192.out; subst eo26) | ((with_reducible refine gate_callee (f := 35) rfl ?_); refine goesL_ (some 4) rfl rfl Tryd.func35 (by kernel_rfl) rfl #[.agg #[.int .i64 3, .int .i64 0, .slice Ao26 y190.length co26, .slice none 0 0, .slice none 0 0, .int .i64 1, .int .i64 258, .int .i64 2], .int .i64 5] rfl (pl112_) ?_; (refine (header_Write.calls k 3 0 (fun k_ => some k_ = (.slice Ao26 y190.length co26 : Value).ownBlock) _ _ y190 _ _ ([] : List Int) _ _ ([] : List Int) 1 258 2 5 t193 _ ?side1 ?side2 ?side3 ?side4 ?side5 ?sideT A2.out).mono ?_); (case sideT => repeat (first | exact HT.out | exact TB.below HT.out HB.out | exact TB.below HT.out HBW.out | (with_reducible refine TB.alloc ?_ _) | (with_reducible refine TB.drewN ?_ _) | (with_reducible refine TB.drew ?_))); (case side1 => exact Kd.R_V (Kd.R_tight rfl (HO192.out))); (case side2 => exact Kd.C_nil _ _); (case side3 => exact Nat.le_refl _); (case side4 => exact Kd.C_nil _ _); (case side5 => exact Nat.le_refl _); rintro e w27 ⟨v194, rfl, ho0, hb⟩; refine ⟨_, rfl, ?_⟩; have n0_ := Aside0.mk (Kd.R_elder' (by qR_; exact HO192.out) (Kd.R_base ho0) hb); have n1_ := Aside0.mk (Kd.R_lower (Kd.R_new' (Kd.R_mono (ok' := fun k_ => True) ho0 (fun _ hk_ => trivial)) (Kd.R_lt (by qR_; exact HO192.out))) (below_size (by qc0_))); have n2_ := Aside0.mk (below_step (by qc0_) hb); clear HO192; clear HB; have HO192 := n0_; have HO195 := n1_; have HB := n2_; clear n0_ n1_ n2_; (try clear hb); (try clear hb2); (try clear hk); (try clear hi); (try clear ho0); obtain ⟨Ao28, co28, eo28⟩ := Kd.R_slice HO195.out; subst eo28))
   go_ret
   ll110_
 ·rw [if_neg c1] at H
  exact absurd H (by simp)
def shibbolethlaw05_same.l0 : Nat → List Int → List Int → Int → Option (Bool)
 | 0, _, _, _ => none
 | k + 1, x0, x1, x5 => if x5 < (x0.length : Int) then (if 0 ≤ x5 then (if x5 < (x1.length : Int) then (if (rd x0 x5) = (rd x1 x5) then (shibbolethlaw05_same.l0 k x0 x1 (wrap64 (x5 + 1))) else (some false)) else (none)) else (none)) else (some true)
def shibbolethlaw05_same.f (k : Nat) (l0 : List Int) (l1 : List Int) : Option (Bool) := if (l0.length : Int) = (l1.length : Int) then (shibbolethlaw05_same.l0 k l0 l1 0) else (some false)
theorem shibbolethlaw05_same.mono_l : ∀ k, (∀ y0 y1 y2, LeO (shibbolethlaw05_same.l0 k y0 y1 y2) (shibbolethlaw05_same.l0 (k + 1) y0 y1 y2))
 | 0 => fun _ _ _ r h => by simp [shibbolethlaw05_same.l0] at h
 | k + 1 => by
  have ih0 := shibbolethlaw05_same.mono_l k
  ·intro y0 y1 y2
   unfold shibbolethlaw05_same.l0
   repeat' first
   | (with_reducible exact ih0 _ _ _)
   | (with_reducible exact LeO.refl _)
   | (with_reducible exact LeO.none _)
   | (with_reducible refine LeO.ite ?_ ?_)
   | (with_reducible refine LeO.bind ?_ (fun _ => ?_))
   | exact ih0 _ _ _
   | exact LeO.none _
   | refine LeO.ite ?_ ?_
   | refine LeO.bind ?_ (fun _ => ?_)
theorem shibbolethlaw05_same.mono : ∀ a0 a1 k, LeO (shibbolethlaw05_same.f k a0 a1) (shibbolethlaw05_same.f (k + 1) a0 a1) := by
 intro a0 a1 k
 have ih0 := shibbolethlaw05_same.mono_l k
 unfold shibbolethlaw05_same.f
 repeat' first
   | (with_reducible exact ih0 _ _ _)
   | (with_reducible exact LeO.refl _)
   | (with_reducible exact LeO.none _)
   | (with_reducible refine LeO.ite ?_ ?_)
   | (with_reducible refine LeO.bind ?_ (fun _ => ?_))
   | exact ih0 _ _ _
   | exact LeO.none _
   | refine LeO.ite ?_ ?_
   | refine LeO.bind ?_ (fun _ => ?_)
set_option maxHeartbeats 8000000 in
set_option maxRecDepth 100000 in
theorem shibbolethlaw05_same.calls (k : Nat) (A0 : Option Addr) (c0 : Nat) (l0 : List Int) (A1 : Option Addr) (c1 : Nat) (l1 : List Int) (r : Bool) (w : World) (hr0 : Kd.C (Kd.int .u8) w A0 l0.length l0) (hc0 : l0.length ≤ c0) (hr1 : Kd.C (Kd.int .u8) w A1 l1.length l1) (hc1 : l1.length ≤ c1) (h : shibbolethlaw05_same.f k l0 l1 = some r) :
  Calls Tryd.prog 39 #[.slice A0 l0.length c0, .slice A1 l1.length c1] w fun e w' => e = .returned (.bool r) ∧ Drawn0 w w' := by
 have HR0 := Aside0.mk hr0
 have HC0 := Aside0.mk hc0
 clear hr0 hc0
 have HR1 := Aside0.mk hr1
 have HC1 := Aside0.mk hc1
 clear hr1 hc1
 have H : (if (l0.length : Int) = (l1.length : Int) then (shibbolethlaw05_same.l0 k l0 l1 0) else (some false)) = some r := h
 clear h
 by_cases c3 : (l0.length : Int) = (l1.length : Int)
 ·rw [if_pos c3] at H
  have c3b0 : ((l0.length : Int) == (l1.length : Int)) = true := beq_iff_eq.mpr c3
  have c3b1 : ((l0.length : Int) != (l1.length : Int)) = false := bne_eq_false_iff_eq.mpr c3
  have c3b2 : (l0.length == l1.length) = true := by first | simpa using c3 | (simp at c3 ⊢; omega)
  clear c3
  have H' := Aside0.mk H
  clear H
  go_enter Tryd.func39, Tryd.ntmps39
  go_wp2
  repeat (go_quiet (fail); try go_wp2)
  go_loopg [5] k (fun kq v5 w' => ∃ (x5_1 : Int), v5 = .int .i64 x5_1 ∧ Aside0 (shibbolethlaw05_same.l0 kq l0 l1 x5_1 = some r) ∧ Aside0 (kq ≤ k) ∧ Drawn0 w w')
  case atStart => exact ⟨(0), (by first | rfl | (simp; done) | (simp [*]; done)), H', ⟨Nat.le_refl _⟩, by repeat (first | exact Drawn0.refl _ | apply Drawn0.step)⟩
  case round =>
   clear H'
   try clear c1
   try clear p2
   try clear c3
   try clear c3b0
   try clear c3b1
   try clear c3b2
   obtain ⟨x5_1, rfl, HA, HK1, ⟨m1, rfl⟩⟩ := hrel
   cases gk with
   | zero => exact absurd HA.out (by simp [shibbolethlaw05_same.l0])
   | succ k1 =>
    have H := HA.out
    clear HA
    simp only [shibbolethlaw05_same.l0] at H
    by_cases c4 : x5_1 < (l0.length : Int)
    ·rw [if_pos c4] at H
     have c4b0 : decide (x5_1 < (l0.length : Int)) = true := decide_eq_true c4
     clear c4
     by_cases c5 : 0 ≤ x5_1
     ·rw [if_pos c5] at H
      have c5b0 : decide (0 ≤ x5_1) = true := decide_eq_true c5
      clear c5
      by_cases c6 : x5_1 < (l1.length : Int)
      ·rw [if_pos c6] at H
       have c6b0 : decide (x5_1 < (l1.length : Int)) = true := decide_eq_true c6
       clear c6
       by_cases c7 : (rd l0 x5_1) = (rd l1 x5_1)
       ·rw [if_pos c7] at H
        have c7b0 : ((rd l0 x5_1) == (rd l1 x5_1)) = true := beq_iff_eq.mpr c7
        have c7b1 : ((rd l0 x5_1) != (rd l1 x5_1)) = false := bne_eq_false_iff_eq.mpr c7
        clear c7
        have H' := Aside0.mk H
        clear H
        have p199 : 0 ≤ (x5_1 : Int) := of_decide_eq_true (pl111_)
        have q199 : x5_1 < (l0.length : Int) := of_decide_eq_true (pl111_)
        obtain ⟨ad199, e199, hx199_0⟩ := Kd.at_int HR0.out x5_1 p199 q199
        (try simp only [Int.reduceToNat] at hx199_0)
        cases e199
        replace p199 := eq_true p199
        replace q199 := eq_true q199
        have p200 : 0 ≤ (x5_1 : Int) := of_decide_eq_true (pl111_)
        have q200 : x5_1 < (l1.length : Int) := of_decide_eq_true (pl111_)
        obtain ⟨ad200, e200, hx200_0⟩ := Kd.at_int HR1.out x5_1 p200 q200
        (try simp only [Int.reduceToNat] at hx200_0)
        cases e200
        replace p200 := eq_true p200
        replace q200 := eq_true q200
        go_wp2
        repeat (go_quiet (fail); try go_wp2)
        go_roundg k1
        case measure => have := HK1.out; omega
        case rel => exact ⟨(wrap64 (x5_1 + 1)), (by first | rfl | (simp; done) | (simp [*]; done)), H', ⟨by have := HK1.out; omega⟩, by repeat (first | exact Drawn0.refl _ | apply Drawn0.step)⟩
       ·rw [if_neg c7] at H
        have c7b0 : ((rd l0 x5_1) == (rd l1 x5_1)) = false := beq_eq_false_iff_ne.mpr c7
        have c7b1 : ((rd l0 x5_1) != (rd l1 x5_1)) = true := bne_iff_ne.mpr c7
        obtain rfl := Option.some.inj H
        have p199 : 0 ≤ (x5_1 : Int) := of_decide_eq_true (pl111_)
        have q199 : x5_1 < (l0.length : Int) := of_decide_eq_true (pl111_)
        obtain ⟨ad199, e199, hx199_0⟩ := Kd.at_int HR0.out x5_1 p199 q199
        (try simp only [Int.reduceToNat] at hx199_0)
        cases e199
        replace p199 := eq_true p199
        replace q199 := eq_true q199
        have p200 : 0 ≤ (x5_1 : Int) := of_decide_eq_true (pl111_)
        have q200 : x5_1 < (l1.length : Int) := of_decide_eq_true (pl111_)
        obtain ⟨ad200, e200, hx200_0⟩ := Kd.at_int HR1.out x5_1 p200 q200
        (try simp only [Int.reduceToNat] at hx200_0)
        cases e200
        replace p200 := eq_true p200
        replace q200 := eq_true q200
        go_wp2
        repeat (go_quiet (fail); try go_wp2)
        go_ret
        ll111_
      ·rw [if_neg c6] at H
       exact absurd H (by simp)
     ·rw [if_neg c5] at H
      exact absurd H (by simp)
    ·rw [if_neg c4] at H
     have c4b0 : decide (x5_1 < (l0.length : Int)) = false := decide_eq_false c4
     clear c4
     obtain rfl := Option.some.inj H
     go_wp2
     repeat (go_quiet (fail); try go_wp2)
     go_ret
     ll111_
 ·rw [if_neg c3] at H
  have c3b0 : ((l0.length : Int) == (l1.length : Int)) = false := beq_eq_false_iff_ne.mpr c3
  have c3b1 : ((l0.length : Int) != (l1.length : Int)) = true := bne_iff_ne.mpr c3
  have c3b2 : (l0.length == l1.length) = false := by first | simpa using c3 | (simp at c3 ⊢; omega)
  obtain rfl := Option.some.inj H
  go_enter Tryd.func39, Tryd.ntmps39
  go_wp2
  repeat (go_quiet (fail); try go_wp2)
  go_ret
  ll111_
end Go.Proofs.YtbcleckapamicaaDoor.QHe
namespace Go.Proofs.YtbcleckapamicaaDoor.QHe
open Go.RowKit Go.Proofs.YtbcleckapamicaaDoorW.PrintWords Go.Proofs.YtbcleckapamicaaDoorW.PrintLast Go.Proofs.YtbcleckapamicaaDoorW.PrintMore
attribute [local go_sem] max2_int min2_int max_two min_two max_three min_three max_four min_four
set_option linter.unusedVariables false
set_option linter.unusedSimpArgs false
end Go.Proofs.YtbcleckapamicaaDoor.QHe
namespace Go.Proofs.YtbcleckapamicaaDoor.QHe
open Go.RowKit Go.Proofs.YtbcleckapamicaaDoorW.PrintWords Go.Proofs.YtbcleckapamicaaDoorW.PrintLast Go.Proofs.YtbcleckapamicaaDoorW.PrintMore
attribute [local go_sem] max2_int min2_int max_two min_two max_three min_three max_four min_four
set_option linter.unusedVariables false
set_option linter.unusedSimpArgs false
end Go.Proofs.YtbcleckapamicaaDoor.QHe
namespace Go.Proofs.YtbcleckapamicaaDoor.QVa
open Go.RowKit Go.Proofs.YtbcleckapamicaaDoorW.PrintWords Go.Proofs.YtbcleckapamicaaDoorW.PrintLast Go.Proofs.YtbcleckapamicaaDoorW.PrintMore
attribute [local go_sem] max2_int min2_int max_two min_two max_three min_three max_four min_four
set_option linter.unusedVariables false
set_option linter.unusedSimpArgs false
end Go.Proofs.YtbcleckapamicaaDoor.QVa
namespace Go.Proofs.YtbcleckapamicaaDoor.VaP
open Go.RowKit Go.Proofs.YtbcleckapamicaaDoorW.PrintWords Go.Proofs.YtbcleckapamicaaDoorW.PrintLast Go.Proofs.YtbcleckapamicaaDoorW.PrintMore Go.Proofs.YtbcleckapamicaaDoor.QVa Go.Proofs.YtbcleckapamicaaDoor.Vn
open Go.Proofs.YtbcleckapamicaaDoor.Gv (bits_TrailingZeros.f slices_Clone_byte_byte.f varint_Size.f varint_Read.f)
set_option linter.unusedVariables false
set_option linter.unusedSimpArgs false
theorem same_l (l : List Int) (hl : l.length ≤ 9223372036854775806) : ∀ (d i k : Nat), i + d = l.length → d < k → shibbolethlaw01_same.l0 k l l (i : Int) = some true := by
  intro d
  induction d with
  | zero =>
    intro i k hi hk
    obtain ⟨k, rfl⟩ : ∃ m, k = m + 1 := ⟨k - 1, by omega⟩
    simp only [shibbolethlaw01_same.l0]
    rw [if_neg (by omega)]
  | succ d ih =>
    intro i k hi hk
    obtain ⟨k, rfl⟩ : ∃ m, k = m + 1 := ⟨k - 1, by omega⟩
    simp only [shibbolethlaw01_same.l0]
    rw [if_pos (by omega), if_pos (by omega), if_pos (by omega), if_pos trivial, show wrap64 ((i : Int) + 1) = ((i + 1 : Nat) : Int) from by unfold wrap64; omega]
    exact ih (i + 1) k (by omega) (by omega)
theorem same_f (l : List Int) (hl : l.length ≤ 9223372036854775806) (k : Nat) (hk : l.length < k) : shibbolethlaw01_same.f k l l = some true := by
  unfold shibbolethlaw01_same.f
  rw [if_pos rfl]
  exact same_l l hl l.length 0 k (by omega) hk
theorem or_mark (a : Int) (i m : Nat) (h0 : 0 ≤ a) (ha : a < 2 ^ i) (hm : m * 2 ^ i < 18446744073709551616) (hi : (2 : Int) ^ i ≤ 18446744073709551616) : Go.bits .or .u64 a ((m * 2 ^ i : Nat) : Int) = a + ((m * 2 ^ i : Nat) : Int) := by
  rw [u64_or a _ h0 (by omega) (by omega) (by omega), Int.toNat_natCast]
  have hc : ((a.toNat : Nat) : Int) < ((2 ^ i : Nat) : Int) := by rw [Int.toNat_of_nonneg h0]; simpa using ha
  have h := Nat.shiftLeft_add_eq_or_of_lt (i := i) (b := a.toNat) (Int.ofNat_lt.1 hc) m
  rw [Nat.shiftLeft_eq] at h
  rw [Nat.or_comm, ← h]
  omega
theorem shr_0 (x : Int) : shr .u64 x 0 = x := by simp [shr]
theorem shr_8 (x : Int) : shr .u64 x 8 = x / 256 := by simp [shr, IntKind.bits]
theorem shr_16 (x : Int) : shr .u64 x 16 = x / 65536 := by simp [shr, IntKind.bits]
theorem shr_24 (x : Int) : shr .u64 x 24 = x / 16777216 := by simp [shr, IntKind.bits]
theorem shr_32 (x : Int) : shr .u64 x 32 = x / 4294967296 := by simp [shr, IntKind.bits]
theorem shr_40 (x : Int) : shr .u64 x 40 = x / 1099511627776 := by simp [shr, IntKind.bits]
theorem shr_48 (x : Int) : shr .u64 x 48 = x / 281474976710656 := by simp [shr, IntKind.bits]
theorem shr_56 (x : Int) : shr .u64 x 56 = x / 72057594037927936 := by simp [shr, IntKind.bits]
theorem append_step (l : List Int) (x : Int) (j k : Nat) (hj : j ≤ 7) (hl : l.length < 140737488355328) : varint_Append.l0 (k + 1) l x (j : Int) = varint_Append.l0 k (l ++ [shr .u64 x ((8 * j : Nat) : Int) % 256]) x ((j : Int) - 1) := by
  simp only [varint_Append.l0]
  have e1 : wrap64 (8 * (j : Int)) = ((8 * j : Nat) : Int) := by unfold wrap64; omega
  have e2 : wrap64 ((j : Int) - 1) = (j : Int) - 1 := by unfold wrap64; omega
  rw [e1, e2, if_pos (by omega), if_pos (by omega), if_pos hl]
theorem append_end (l : List Int) (x : Int) (k : Nat) : varint_Append.l0 (k + 1) l x (-1) = some l := by
  simp only [varint_Append.l0]
  rw [if_neg (by omega)]
theorem append_f (l : List Int) (n : Int) (hl : l.length ≤ 1000000) (k : Nat) (hk : 9 < k) : varint_Append.f k l n = some (l ++ vbytes n) := by
  obtain ⟨k, rfl⟩ : ∃ m, k = m + 9 := ⟨k - 9, by omega⟩
  unfold varint_Append.f slices_Clone_byte_byte.f varint_Size.f
  rw [if_pos (by omega)]
  simp only [Option.bind_some]
  rcases vsize_cases n with ⟨hn, h, e⟩ | ⟨hn, h, e⟩ | ⟨hn, h, e⟩ | ⟨hn, h, e⟩ | ⟨hn, h, e⟩ <;> rw [h, e]
  · simp
  · have w1 : IntKind.u64.wrap n = n := by simp [IntKind.wrap, IntKind.bits, IntKind.signed]; omega
    have w2 : shl .u64 (IntKind.u64.wrap 0) (wrap64 ((wrap64 (8 * 1)) - 2)) = ((0 * 2 ^ 6 : Nat) : Int) := by decide +kernel
    have w3 : bits_TrailingZeros.f (IntKind.u64.wrap 1) = some 0 := by decide +kernel
    have w4 : wrap64 (1 - 1) = ((0 : Nat) : Int) := by decide +kernel
    rw [if_neg (by decide), w3]
    simp only [Option.bind_some]
    rw [if_pos (by decide +kernel), w1, w2, w4, or_mark n 6 0 hn.1 (by omega) (by omega) (by decide), show (k + 9) = (k + 7) + 1 + 1 from rfl, append_step _ _ 0 _ (by omega) (by omega), show (((0 : Nat) : Int) - 1) = -1 from rfl, append_end]
    congr 2
    simp only [show ((8 * 0 : Nat) : Int) = 0 from rfl, shr_0]
    congr 1; omega
  · have w1 : IntKind.u64.wrap n = n := by simp [IntKind.wrap, IntKind.bits, IntKind.signed]; omega
    have w2 : shl .u64 (IntKind.u64.wrap 1) (wrap64 ((wrap64 (8 * 2)) - 2)) = ((1 * 2 ^ 14 : Nat) : Int) := by decide +kernel
    have w3 : bits_TrailingZeros.f (IntKind.u64.wrap 2) = some 1 := by decide +kernel
    have w4 : wrap64 (2 - 1) = ((1 : Nat) : Int) := by decide +kernel
    rw [if_neg (by decide), w3]
    simp only [Option.bind_some]
    rw [if_pos (by decide +kernel), w1, w2, w4, or_mark n 14 1 (by omega) (by omega) (by omega) (by decide), show (k + 9) = (k + 6) + 1 + 1 + 1 from rfl, append_step _ _ 1 _ (by omega) (by omega), show (((1 : Nat) : Int) - 1) = ((0 : Nat) : Int) from rfl,
      append_step _ _ 0 _ (by omega) (by simp; omega), show (((0 : Nat) : Int) - 1) = -1 from rfl, append_end]
    simp only [show ((8 * 0 : Nat) : Int) = 0 from rfl, show ((8 * 1 : Nat) : Int) = 8 from rfl, shr_0, shr_8, List.append_assoc, List.cons_append, List.nil_append]
    congr 2
    simp only [List.cons.injEq, and_true]
    omega
  · have w1 : IntKind.u64.wrap n = n := by simp [IntKind.wrap, IntKind.bits, IntKind.signed]; omega
    have w2 : shl .u64 (IntKind.u64.wrap 2) (wrap64 ((wrap64 (8 * 4)) - 2)) = ((2 * 2 ^ 30 : Nat) : Int) := by decide +kernel
    have w3 : bits_TrailingZeros.f (IntKind.u64.wrap 4) = some 2 := by decide +kernel
    have w4 : wrap64 (4 - 1) = ((3 : Nat) : Int) := by decide +kernel
    rw [if_neg (by decide), w3]
    simp only [Option.bind_some]
    rw [if_pos (by decide +kernel), w1, w2, w4, or_mark n 30 2 (by omega) (by omega) (by omega) (by decide), show (k + 9) = (k + 4) + 1 + 1 + 1 + 1 + 1 from rfl, append_step _ _ 3 _ (by omega) (by omega), show (((3 : Nat) : Int) - 1) = ((2 : Nat) : Int) from rfl,
      append_step _ _ 2 _ (by omega) (by simp; omega), show (((2 : Nat) : Int) - 1) = ((1 : Nat) : Int) from rfl, append_step _ _ 1 _ (by omega) (by simp; omega), show (((1 : Nat) : Int) - 1) = ((0 : Nat) : Int) from rfl,
      append_step _ _ 0 _ (by omega) (by simp; omega), show (((0 : Nat) : Int) - 1) = -1 from rfl, append_end]
    simp only [show ((8 * 0 : Nat) : Int) = 0 from rfl, show ((8 * 1 : Nat) : Int) = 8 from rfl, show ((8 * 2 : Nat) : Int) = 16 from rfl, show ((8 * 3 : Nat) : Int) = 24 from rfl, shr_0, shr_8, shr_16, shr_24, List.append_assoc, List.cons_append, List.nil_append]
    congr 2
    simp only [List.cons.injEq, and_true]
    omega
  · have w1 : IntKind.u64.wrap n = n := by simp [IntKind.wrap, IntKind.bits, IntKind.signed]; omega
    have w2 : shl .u64 (IntKind.u64.wrap 3) (wrap64 ((wrap64 (8 * 8)) - 2)) = ((3 * 2 ^ 62 : Nat) : Int) := by decide +kernel
    have w3 : bits_TrailingZeros.f (IntKind.u64.wrap 8) = some 3 := by decide +kernel
    have w4 : wrap64 (8 - 1) = ((7 : Nat) : Int) := by decide +kernel
    rw [if_neg (by decide), w3]
    simp only [Option.bind_some]
    rw [if_pos (by decide +kernel), w1, w2, w4, or_mark n 62 3 (by omega) (by omega) (by omega) (by decide), show (k + 9) = k + 1 + 1 + 1 + 1 + 1 + 1 + 1 + 1 + 1 from rfl, append_step _ _ 7 _ (by omega) (by omega), show (((7 : Nat) : Int) - 1) = ((6 : Nat) : Int) from rfl,
      append_step _ _ 6 _ (by omega) (by simp; omega), show (((6 : Nat) : Int) - 1) = ((5 : Nat) : Int) from rfl, append_step _ _ 5 _ (by omega) (by simp; omega), show (((5 : Nat) : Int) - 1) = ((4 : Nat) : Int) from rfl,
      append_step _ _ 4 _ (by omega) (by simp; omega), show (((4 : Nat) : Int) - 1) = ((3 : Nat) : Int) from rfl, append_step _ _ 3 _ (by omega) (by simp; omega), show (((3 : Nat) : Int) - 1) = ((2 : Nat) : Int) from rfl,
      append_step _ _ 2 _ (by omega) (by simp; omega), show (((2 : Nat) : Int) - 1) = ((1 : Nat) : Int) from rfl, append_step _ _ 1 _ (by omega) (by simp; omega), show (((1 : Nat) : Int) - 1) = ((0 : Nat) : Int) from rfl,
      append_step _ _ 0 _ (by omega) (by simp; omega), show (((0 : Nat) : Int) - 1) = -1 from rfl, append_end]
    simp only [show ((8 * 0 : Nat) : Int) = 0 from rfl, show ((8 * 1 : Nat) : Int) = 8 from rfl, show ((8 * 2 : Nat) : Int) = 16 from rfl, show ((8 * 3 : Nat) : Int) = 24 from rfl, show ((8 * 4 : Nat) : Int) = 32 from rfl, show ((8 * 5 : Nat) : Int) = 40 from rfl, show ((8 * 6 : Nat) : Int) = 48 from rfl, show ((8 * 7 : Nat) : Int) = 56 from rfl,
      shr_0, shr_8, shr_16, shr_24, shr_32, shr_40, shr_48, shr_56, List.append_assoc, List.cons_append, List.nil_append]
    congr 2
    simp only [List.cons.injEq, and_true]
    omega
theorem vread_f (l : List Int) (hB : Bytes l) : varint_Read.f l = some (vread l) := by unfold varint_Read.f; rw [if_pos hB]
theorem awake_f (k : Nat) (hk : 40 < k) : shibbolethlaw01_awake.f k = some true := by
  unfold shibbolethlaw01_awake.f
  rw [vread_f _ (by decide), append_f [] 63 (by simp) k (by omega), append_f [] 16384 (by simp) k (by omega)]
  simp only [Option.bind_some, List.nil_append]
  rw [show vbytes 63 = [63] from by decide +kernel, show vbytes 16384 = [128, 0, 64, 0] from by decide +kernel, same_f _ (by simp) k (by simp; omega), same_f _ (by simp) k (by simp; omega)]
  decide +kernel
end Go.Proofs.YtbcleckapamicaaDoor.VaP
namespace Go.Proofs.YtbcleckapamicaaDoor.HeP
open Go.RowKit Go.Proofs.YtbcleckapamicaaDoorW.PrintWords Go.Proofs.YtbcleckapamicaaDoorW.PrintLast Go.Proofs.YtbcleckapamicaaDoorW.PrintMore Go.Proofs.YtbcleckapamicaaDoor.QHe Go.Proofs.YtbcleckapamicaaDoor.Vn
open Go.Proofs.YtbcleckapamicaaDoor.Gw (slices_Concat_byte_byte.f)
open Go.Proofs.YtbcleckapamicaaDoor.QVa (varint_Append.f varint_Give.f)
open Go.Proofs.YtbcleckapamicaaDoor.VaP (append_f)
set_option linter.unusedVariables false
set_option linter.unusedSimpArgs false
theorem same_l (l : List Int) (hl : l.length ≤ 9223372036854775806) : ∀ (d i k : Nat), i + d = l.length → d < k → shibbolethlaw05_same.l0 k l l (i : Int) = some true := by
  intro d
  induction d with
  | zero =>
    intro i k hi hk
    obtain ⟨k, rfl⟩ : ∃ m, k = m + 1 := ⟨k - 1, by omega⟩
    simp only [shibbolethlaw05_same.l0]
    rw [if_neg (by omega)]
  | succ d ih =>
    intro i k hi hk
    obtain ⟨k, rfl⟩ : ∃ m, k = m + 1 := ⟨k - 1, by omega⟩
    simp only [shibbolethlaw05_same.l0]
    rw [if_pos (by omega), if_pos (by omega), if_pos (by omega), if_pos trivial, show wrap64 ((i : Int) + 1) = ((i + 1 : Nat) : Int) from by unfold wrap64; omega]
    exact ih (i + 1) k (by omega) (by omega)
theorem same_f (l : List Int) (hl : l.length ≤ 9223372036854775806) (k : Nat) (hk : l.length < k) : shibbolethlaw05_same.f k l l = some true := by
  unfold shibbolethlaw05_same.f
  rw [if_pos rfl]
  exact same_l l hl l.length 0 k (by omega) hk
def hbig (n : Int) (w : Int) : List Int :=
  if w = 1 then [n % 256] else if w = 2 then [n / 256 % 256, n % 256] else if w = 3 then [n / 65536 % 256, n / 256 % 256, n % 256] else [n / 16777216 % 256, n / 65536 % 256, n / 256 % 256, n % 256]
theorem hbig_len (n w : Int) : (hbig n w).length ≤ 4 := by unfold hbig; (repeat' split) <;> simp
theorem big_f (n w : Int) (h1 : 1 ≤ w) (h4 : w ≤ 4) (k : Nat) (hk : 5 < k) : header_big.f k n w = some (hbig n w) := by
  obtain ⟨k, rfl⟩ : ∃ m, k = m + 6 := ⟨k - 6, by omega⟩
  unfold header_big.f
  rw [if_pos (by omega), if_pos (by omega)]
  obtain rfl | rfl | rfl | rfl : w = 1 ∨ w = 2 ∨ w = 3 ∨ w = 4 := by omega
  all_goals simp [header_big.l0, wrap64, shr, IntKind.bits, hbig, List.replicate]
def hbound (w : Int) : Int := if w = 1 then 256 else if w = 2 then 65536 else if w = 3 then 16777216 else 4294967296
theorem wide_f (n w : Int) (h1 : 1 ≤ w) (h4 : w ≤ 4) : header_wide.f n w = some (decide (0 ≤ n ∧ n < hbound w)) := by
  unfold header_wide.f
  obtain rfl | rfl | rfl | rfl : w = 1 ∨ w = 2 ∨ w = 3 ∨ w = 4 := by omega
  all_goals
    by_cases h : 0 ≤ n
    · simp [h, wrap64, shl, IntKind.wrap, IntKind.bits, IntKind.signed, hbound]
    · simp [h]
def hright (a0 a1 : Int) (l2 l3 l4 : List Int) (a5 a6 a7 : Int) : Prop := 1 ≤ a7 ∧ a7 ≤ 4 ∧ 0 ≤ a6 ∧ a6 < hbound a7 ∧
  ((a0 = 3 ∧ a1 = 0 ∧ l2.length = 8 ∧ l3.length = 0 ∧ l4.length = 0 ∧ (a5 = 0 ∨ a5 = 1)) ∨
   (0 ≤ a0 ∧ a0 < 3 ∧ 1 ≤ a1 ∧ a1 ≤ 4294967295 ∧ l2.length ≤ 20 ∧ l3.length ≤ 20 ∧ a5 = 0 ∧ l4.length ≤ 64 ∧ (a0 = 0 ∨ l4.length = 0)))
instance (a0 a1 : Int) (l2 l3 l4 : List Int) (a5 a6 a7 : Int) : Decidable (hright a0 a1 l2 l3 l4 a5 a6 a7) := by unfold hright; infer_instance
theorem some_decide {p q : Prop} [Decidable p] [Decidable q] (h : p ↔ q) : some (decide p) = some (decide q) := by simp [h]
theorem beq_decide (a b : Int) : (a == b) = decide (a = b) := by by_cases h : a = b <;> simp [h]
theorem true_decide {q : Prop} [Decidable q] (h : q) : some true = some (decide q) := by simp [h]
theorem false_decide {q : Prop} [Decidable q] (h : ¬ q) : some false = some (decide q) := by simp [h]
theorem right_f (a0 a1 : Int) (l2 l3 l4 : List Int) (a5 a6 a7 : Int) (k : Nat) (hk : 5 < k) : header_Right.f k a0 a1 l2 l3 l4 a5 a6 a7 = some (decide (hright a0 a1 l2 l3 l4 a5 a6 a7)) := by
  obtain ⟨k, rfl⟩ : ∃ m, k = m + 1 := ⟨k - 1, by omega⟩
  unfold header_Right.f
  by_cases h1 : a7 < 1
  · rw [if_pos h1]; simp only [header_Right.j0]; rw [if_pos trivial]; exact false_decide (by unfold hright; omega)
  rw [if_neg h1]
  by_cases h4 : a7 > 4
  · rw [if_pos h4]; simp only [header_Right.j0]; rw [if_pos trivial]; exact false_decide (by unfold hright; omega)
  rw [if_neg h4, wide_f a6 a7 (by omega) (by omega)]
  simp only [Option.bind_some, header_Right.j0]
  by_cases hb : 0 ≤ a6 ∧ a6 < hbound a7
  · rw [decide_eq_true hb, if_neg (by decide), wide_f a1 4 (by omega) (by omega)]
    simp only [Option.bind_some, beq_decide, decide_eq_true_eq, show hbound 4 = 4294967296 from rfl]
    repeat' split
    all_goals first | exact true_decide (by unfold hright; omega) | exact false_decide (by unfold hright; omega) | exact some_decide (by unfold hright; omega)
  · rw [decide_eq_false hb, if_pos (by decide)]
    exact false_decide (by unfold hright; omega)
def hbytes (a0 a1 : Int) (l2 l3 l4 : List Int) (a5 a6 a7 n : Int) : List Int :=
  if a0 = 3 then [63 + 4 * a5 + a7] ++ l2 ++ hbig a6 a7
  else [191 + 16 * a0 + a7] ++ hbig a1 4 ++ ((l2.length : Int) :: l2) ++ ((l3.length : Int) :: l3) ++ (if a0 = 0 then vbytes l4.length ++ l4 else []) ++ vbytes (a7 + n) ++ hbig a6 a7
theorem hbytes_len (a0 a1 : Int) (l2 l3 l4 : List Int) (a5 a6 a7 n : Int) (h : hright a0 a1 l2 l3 l4 a5 a6 a7) : (hbytes a0 a1 l2 l3 l4 a5 a6 a7 n).length ≤ 200 := by
  have e1 := hbig_len a6 a7
  have e2 := hbig_len a1 4
  have e3 := vbytes_le (l4.length : Int)
  have e4 := vbytes_le (a7 + n)
  unfold hright at h
  unfold hbytes
  split
  · simp; omega
  · split <;> simp <;> omega
theorem named_f (l : List Int) (h : l.length ≤ 255) : header_named.f l = some ((l.length : Int) :: l) := by
  unfold header_named.f
  simp only [Option.bind_some]
  rw [if_pos (by simp; omega), show (l.length : Int) % 256 = l.length from by omega]
  rfl
theorem concat_f (y : List (List Int)) (h : y.flatten.length ≤ 140737488355328) : slices_Concat_byte_byte.f y = some y.flatten := by
  unfold slices_Concat_byte_byte.f
  rw [if_pos h]
theorem give_f (l p : List Int) (hl : l.length ≤ 100000) (hp : p.length ≤ 100000) (k : Nat) (hk : 9 < k) : varint_Give.f k l p = some (l ++ vbytes p.length ++ p) := by
  have h8 := vbytes_le (p.length : Int)
  unfold varint_Give.f
  rw [append_f l _ (by omega) k hk]
  simp only [Option.bind_some]
  rw [if_pos (by rw [List.length_append]; omega)]
theorem write_f (a0 a1 : Int) (l2 l3 l4 : List Int) (a5 a6 a7 n : Int) (k : Nat) (hk : 40 < k) : header_Write.f k a0 a1 l2 l3 l4 a5 a6 a7 n =
    some (if hright a0 a1 l2 l3 l4 a5 a6 a7 ∧ 0 ≤ n ∧ n ≤ 16384 then hbytes a0 a1 l2 l3 l4 a5 a6 a7 n else []) := by
  obtain ⟨k, rfl⟩ : ∃ m, k = m + 1 := ⟨k - 1, by omega⟩
  unfold header_Write.f
  rw [right_f _ _ _ _ _ _ _ _ _ (by omega)]
  simp only [Option.bind_some]
  by_cases h : hright a0 a1 l2 l3 l4 a5 a6 a7
  · rw [decide_eq_true h, if_pos rfl]
    by_cases h0 : n < 0
    · rw [if_pos h0, if_neg (by omega)]; simp only [header_Write.j0]; rw [if_pos trivial]
    rw [if_neg h0]
    by_cases h1 : n > 16384
    · rw [decide_eq_true h1, if_neg (by omega)]; simp only [header_Write.j0]; rw [if_pos trivial]
    rw [decide_eq_false h1, if_pos ⟨h, by omega, by omega⟩]
    simp only [header_Write.j0]
    rw [if_neg (by decide)]
    have hh := h
    unfold hright at hh
    have e1 := hbig_len a6 a7
    have e2 := hbig_len a1 4
    have e3 := vbytes_le (l4.length : Int)
    have e4 := vbytes_le (a7 + n)
    unfold hbytes
    by_cases h3 : a0 = 3
    · rw [if_pos h3, if_pos h3, big_f _ _ (by omega) (by omega) _ (by omega)]
      simp only [Option.bind_some]
      have w1 : wrap64 ((wrap64 ((wrap64 (64 + (wrap64 (4 * a5)))) + a7)) - 1) % 256 = 63 + 4 * a5 + a7 := by unfold wrap64; omega
      rw [w1, concat_f _ (by simp; omega)]
      simp
    · rw [if_neg h3, if_neg h3, big_f _ _ (by omega) (by omega) _ (by omega), big_f _ _ (by omega) (by omega) _ (by omega), named_f _ (by omega), named_f _ (by omega)]
      simp only [Option.bind_some]
      have w1 : wrap64 ((wrap64 ((wrap64 (192 + (wrap64 (16 * a0)))) + a7)) - 1) % 256 = 191 + 16 * a0 + a7 := by unfold wrap64; omega
      have w2 : wrap64 (a7 + n) = a7 + n := by unfold wrap64; omega
      rw [w1, w2, concat_f _ (by simp; omega)]
      simp only [Option.bind_some]
      by_cases h00 : a0 = 0
      · rw [if_pos h00, if_pos h00, give_f _ _ (by simp; omega) (by omega) _ (by omega)]
        simp only [Option.bind_some]
        rw [append_f _ _ (by simp; omega) _ (by omega)]
        simp only [Option.bind_some]
        rw [if_pos (by simp; omega)]
        simp
      · rw [if_neg h00, if_neg h00, append_f _ _ (by simp; omega) _ (by omega)]
        simp only [Option.bind_some]
        rw [if_pos (by simp; omega)]
        simp
  · rw [decide_eq_false h, if_neg (by decide), if_neg (by simp [h])]; simp only [header_Write.j0]; rw [if_pos trivial]
theorem awake_f (k : Nat) (hk : 40 < k) : shibbolethlaw05_awake.f k = some true := by
  unfold shibbolethlaw05_awake.f
  rw [if_pos (by omega), write_f _ _ _ _ _ _ _ _ _ k hk, if_pos (by decide)]
  simp only [Option.bind_some]
  decide
end Go.Proofs.YtbcleckapamicaaDoor.HeP
namespace Go.Proofs.YtbcleckapamicaaDoor.HrP
open Go.RowKit Go.Proofs.YtbcleckapamicaaDoorW.PrintWords Go.Proofs.YtbcleckapamicaaDoor.Vn Go.Proofs.YtbcleckapamicaaDoor.Hr Go.Proofs.YtbcleckapamicaaDoor.HeP
set_option linter.unusedVariables false
set_option linter.unusedSimpArgs false
def Seg (l : List Int) (p : Nat) (s : List Int) : Prop := ∃ rest, l.drop p = s ++ rest
theorem Seg.le {l : List Int} {p : Nat} {s : List Int} (h : Seg l p s) (hp : p ≤ l.length) : p + s.length ≤ l.length := by
  obtain ⟨r, h⟩ := h
  have := congrArg List.length h
  simp at this
  omega
theorem Seg.next {l : List Int} {p : Nat} {s t : List Int} (h : Seg l p (s ++ t)) : Seg l (p + s.length) t := by
  obtain ⟨r, h⟩ := h
  refine ⟨r, ?_⟩
  rw [← List.drop_drop, h, List.append_assoc, List.drop_left]
theorem Seg.left {l : List Int} {p : Nat} {s t : List Int} (h : Seg l p (s ++ t)) : Seg l p s := by
  obtain ⟨r, h⟩ := h
  exact ⟨t ++ r, by rw [h, List.append_assoc]⟩
theorem Seg.take {l : List Int} {p : Nat} {s : List Int} (h : Seg l p s) : (l.drop p).take s.length = s := by
  obtain ⟨r, h⟩ := h
  rw [h, List.take_left]
theorem rdB_seg {l : List Int} {p : Nat} {s : List Int} (h : Seg l p s) (hp : p ≤ l.length) : rdB l p s.length = .ok (s, p + s.length) := by
  unfold rdB
  rw [if_pos (h.le hp), h.take]
theorem rdN_seg {l : List Int} {p : Nat} {s : List Int} (h : Seg l p s) (hp : p ≤ l.length) : rdN l p s.length = .ok (numF s, p + s.length) := by
  unfold rdN
  rw [if_pos (h.le hp), h.take]
theorem rdV_seg {l : List Int} {p : Nat} {n : Int} (h : Seg l p (vbytes n)) (h0 : 0 ≤ n) (h1 : n ≤ 4611686018427387903) : rdV l p = .ok (n, p + (vbytes n).length) := by
  obtain ⟨r, h⟩ := h
  unfold rdV
  rw [h, vread_vbytes n h0 h1 r, if_pos rfl]
  simp
theorem numF_big (n w : Int) (h1 : 1 ≤ w) (h4 : w ≤ 4) (h0 : 0 ≤ n) (hb : n < hbound w) : numF (hbig n w) = n ∧ ((hbig n w).length : Int) = w := by
  unfold hbound at hb
  unfold hbig
  obtain rfl | rfl | rfl | rfl : w = 1 ∨ w = 2 ∨ w = 3 ∨ w = 4 := by omega
  all_goals
    simp at hb ⊢
    simp [numF]
    omega
theorem numF_one (x : Int) : numF [x] = x := by simp [numF]
theorem rdC_seg {l : List Int} {p : Nat} {s : List Int} {m : Int} (h : Seg l p ((s.length : Int) :: s)) (hp : p ≤ l.length) (hm : (s.length : Int) ≤ m) : rdC (rdN l p 1) l m = .ok (s, p + (s.length + 1)) := by
  have h1 : Seg l p ([(s.length : Int)] ++ s) := h
  have h2 := rdN_seg h1.left hp
  have h3 := h1.left.le hp
  rw [List.length_singleton, numF_one] at h2
  rw [h2]
  show (if (s.length : Int) ≤ m then rdB l (p + 1) (s.length : Int).toNat else .error 4) = _
  rw [if_pos hm, Int.toNat_natCast]
  have h4 := rdB_seg h1.next (by simpa using h3)
  rw [List.length_singleton] at h4
  rw [h4, Nat.add_assoc, Nat.add_comm 1]
theorem rdCV_seg {l : List Int} {p : Nat} {s : List Int} {m : Int} (h : Seg l p (vbytes s.length ++ s)) (hp : p ≤ l.length) (hm : (s.length : Int) ≤ m) (hs : s.length ≤ 100000) : rdC (rdV l p) l m = .ok (s, p + ((vbytes s.length).length + s.length)) := by
  have h3 := h.left.le hp
  rw [rdV_seg h.left (by omega) (by omega)]
  show (if (s.length : Int) ≤ m then rdB l (p + (vbytes s.length).length) (s.length : Int).toNat else .error 4) = _
  rw [if_pos hm, Int.toNat_natCast, rdB_seg h.next h3, Nat.add_assoc]
theorem read_short (a5 a6 a7 : Int) (l2 rest : List Int) (h7 : 1 ≤ a7) (h7' : a7 ≤ 4) (h6 : 0 ≤ a6) (h6' : a6 < hbound a7) (h2 : l2.length = 8) (h5 : a5 = 0 ∨ a5 = 1) :
    hread ([63 + 4 * a5 + a7] ++ l2 ++ hbig a6 a7 ++ rest) = .ok ((3, 0, l2, [], [], a5, a6, a7), ([63 + 4 * a5 + a7] ++ l2 ++ hbig a6 a7).length, (([63 + 4 * a5 + a7] ++ l2 ++ hbig a6 a7 ++ rest).length : Int)) := by
  obtain ⟨l, hl⟩ : ∃ l, [63 + 4 * a5 + a7] ++ l2 ++ hbig a6 a7 ++ rest = l := ⟨_, rfl⟩
  have hb := numF_big a6 a7 h7 h7' h6 h6'
  have s0 : Seg l 0 ([63 + 4 * a5 + a7] ++ (l2 ++ hbig a6 a7)) := ⟨rest, by rw [← hl]; simp⟩
  have s1 := s0.next
  have s2 := s1.next
  have e0 := rdN_seg s0.left (Nat.zero_le _)
  have l0 := s0.left.le (Nat.zero_le _)
  have e1 := rdB_seg s1.left (by omega)
  have l1 := s1.left.le (by omega)
  have e2 := rdN_seg (s := hbig a6 a7) (by simpa using s2) (by simpa using l1)
  rw [hl]
  simp only [List.length_singleton, Nat.zero_add, numF_one] at e0 e1 e2
  rw [h2] at e1 e2
  rw [hb.1, show (hbig a6 a7).length = a7.toNat by omega] at e2
  unfold hread
  rw [e0]
  show (if 63 + 4 * a5 + a7 < 192 then hShort l (63 + 4 * a5 + a7) 1 else _) = _
  rw [if_pos (by omega)]
  unfold hShort
  rw [if_pos (by omega), e1]
  show (match rdN l (1 + 8) ((63 + 4 * a5 + a7) % 4 + 1).toNat with | .error e => _ | .ok (nm, p2) => _) = _
  rw [show (63 + 4 * a5 + a7) % 4 + 1 = a7 by omega, e2]
  show Except.ok ((3, 0, l2, [], [], (63 + 4 * a5 + a7) / 4 % 2, a6, a7), 1 + 8 + a7.toNat, (l.length : Int)) = _
  rw [show (63 + 4 * a5 + a7) / 4 % 2 = a5 by omega]
  have : ([63 + 4 * a5 + a7] ++ l2 ++ hbig a6 a7).length = 1 + 8 + a7.toNat := by simp [h2]; omega
  rw [this]
def lbytes (a0 a1 : Int) (l2 l3 l4 : List Int) (a6 a7 n : Int) : List Int :=
  [191 + 16 * a0 + a7] ++ (hbig a1 4 ++ (((l2.length : Int) :: l2) ++ (((l3.length : Int) :: l3) ++ ((if a0 = 0 then vbytes l4.length ++ l4 else []) ++ (vbytes (a7 + n) ++ hbig a6 a7)))))
theorem hbytes_long (a0 a1 : Int) (l2 l3 l4 : List Int) (a5 a6 a7 n : Int) (h : a0 ≠ 3) : hbytes a0 a1 l2 l3 l4 a5 a6 a7 n = lbytes a0 a1 l2 l3 l4 a6 a7 n := by
  unfold hbytes lbytes
  rw [if_neg h]
  simp
theorem head_part {a0 a7 : Int} (h0 : 0 ≤ a0) (h3 : a0 < 3) (h7 : 1 ≤ a7) (h7' : a7 ≤ 4) : ¬ (191 + 16 * a0 + a7 < 192) ∧ (191 + 16 * a0 + a7) / 4 % 4 = 0 ∧ (191 + 16 * a0 + a7) / 16 % 4 = a0 ∧ (191 + 16 * a0 + a7) % 4 + 1 = a7 := by omega
set_option maxHeartbeats 1000000 in
theorem read_long (a0 a1 a6 a7 n : Int) (l2 l3 l4 rest : List Int) (h0 : 0 ≤ a0) (h3 : a0 < 3) (h7 : 1 ≤ a7) (h7' : a7 ≤ 4) (h6 : 0 ≤ a6) (h6' : a6 < hbound a7) (h1 : 1 ≤ a1) (h1' : a1 ≤ 4294967295) (h2 : l2.length ≤ 20) (h3' : l3.length ≤ 20) (h4 : l4.length ≤ 64)
    (h40 : a0 = 0 ∨ l4.length = 0) (hn : 0 ≤ n) (hn' : n ≤ rest.length) (hr : rest.length ≤ 100000) :
    hread (lbytes a0 a1 l2 l3 l4 a6 a7 n ++ rest) = .ok ((a0, a1, l2, l3, l4, 0, a6, a7), (lbytes a0 a1 l2 l3 l4 a6 a7 n).length, ((lbytes a0 a1 l2 l3 l4 a6 a7 n).length : Int) + n) := by
  obtain ⟨l, hl⟩ : ∃ l, lbytes a0 a1 l2 l3 l4 a6 a7 n ++ rest = l := ⟨_, rfl⟩
  have hb := numF_big a6 a7 h7 h7' h6 h6'
  have hv := numF_big a1 4 (by decide) (by decide) (by omega) (by simp [hbound]; omega)
  have hv4 : (hbig a1 4).length = 4 := by have := hv.2; omega
  have s0 : Seg l 0 (lbytes a0 a1 l2 l3 l4 a6 a7 n) := ⟨rest, by rw [← hl]; simp⟩
  have hlen := congrArg List.length hl
  rw [List.length_append] at hlen
  unfold lbytes at s0
  obtain ⟨q0, q1, q2, q3⟩ := head_part h0 h3 h7 h7'
  have e0 := rdN_seg s0.left (Nat.zero_le _)
  have k0 := s0.left.le (Nat.zero_le _)
  have s1 := s0.next
  simp only [List.length_singleton, Nat.zero_add, numF_one] at e0 k0 s1
  have e1 := rdN_seg s1.left k0
  have k1 := s1.left.le k0
  have s2 := s1.next
  rw [hv4] at e1 k1 s2
  rw [hv.1] at e1
  have e2 := rdC_seg s2.left k1 (m := ((20 : Nat) : Int)) (by omega)
  have k2 := s2.left.le k1
  have s3 := s2.next
  simp only [List.length_cons] at e2 k2 s3
  have e3 := rdC_seg s3.left k2 (m := ((20 : Nat) : Int)) (by omega)
  have k3 := s3.left.le k2
  have s4 := s3.next
  simp only [List.length_cons] at e3 k3 s4
  rw [hl]
  unfold hread
  rw [e0]
  show (if 191 + 16 * a0 + a7 < 192 then _ else hLong l (191 + 16 * a0 + a7) 1) = _
  rw [if_neg q0]
  unfold hLong
  rw [if_pos ⟨q1, by omega⟩, q2, q3]
  unfold hS11
  rw [e1]
  show (if 0 < a1 then hS13 l a0 a1 a7 (1 + 4) else _) = _
  rw [if_pos (by omega)]
  unfold hS13
  rw [e2]
  show hS14 l a0 a1 l2 a7 (1 + 4 + (l2.length + 1)) = _
  unfold hS14
  rw [e3]
  show hS15 l a0 a1 l2 l3 a7 (1 + 4 + (l2.length + 1) + (l3.length + 1)) = _
  obtain ⟨p, hp⟩ : ∃ p, 1 + 4 + (l2.length + 1) + (l3.length + 1) = p := ⟨_, rfl⟩
  rw [hp] at s4 k3 ⊢
  clear e0 e1 e2 e3 s0 s1 s2 s3 k0 k1 k2
  have hw : (hbig a6 a7).length = a7.toNat := by omega
  have hL : (lbytes a0 a1 l2 l3 l4 a6 a7 n).length = p + (if a0 = 0 then vbytes l4.length ++ l4 else []).length + (vbytes (a7 + n)).length + a7.toNat := by
    unfold lbytes
    simp only [List.length_append, List.length_cons, List.length_nil, hv4, hw]
    omega
  have tok : ∃ q, hS15 l a0 a1 l2 l3 a7 p = hS17 l a0 a1 l2 l3 l4 a7 q ∧ q ≤ l.length ∧ Seg l q (vbytes (a7 + n) ++ hbig a6 a7) ∧ q + (vbytes (a7 + n)).length + a7.toNat = (lbytes a0 a1 l2 l3 l4 a6 a7 n).length := by
    by_cases hz : a0 = 0
    · rw [if_pos hz] at s4 hL
      have e4 := rdCV_seg s4.left k3 (m := ((64 : Nat) : Int)) (by omega) (by omega)
      have k4 := s4.left.le k3
      rw [List.length_append] at k4 hL
      refine ⟨p + ((vbytes l4.length).length + l4.length), ?_, by omega, by have := s4.next; rwa [List.length_append] at this, by omega⟩
      unfold hS15
      rw [if_pos hz, e4]
    · have h4' : l4 = [] := List.length_eq_zero_iff.1 (h40.resolve_left hz)
      rw [if_neg hz] at s4 hL
      rw [List.nil_append] at s4
      refine ⟨p, ?_, k3, s4, by simp at hL; omega⟩
      unfold hS15
      rw [if_neg hz, h4']
  obtain ⟨q, ht, hq, s5, hqL⟩ := tok
  rw [ht]
  have e5 := rdV_seg s5.left (by omega) (by omega)
  have k5 := s5.left.le hq
  have e6 := rdN_seg s5.next k5
  rw [hb.1, hw] at e6
  unfold hS17
  rw [e5]
  show (if a7 ≤ a7 + n then (if a7 + n ≤ (l.length : Int) - ((q + (vbytes (a7 + n)).length : Nat) : Int) then hS21 l a0 a1 l2 l3 l4 a7 (a7 + n) (q + (vbytes (a7 + n)).length) else .error 2) else .error 3) = _
  rw [if_pos (by omega), if_pos (by omega)]
  unfold hS21
  rw [e6]
  show Except.ok ((a0, a1, l2, l3, l4, 0, a6, a7), q + (vbytes (a7 + n)).length + a7.toNat, ((q + (vbytes (a7 + n)).length : Nat) : Int) + (a7 + n)) = _
  rw [hqL, show ((q + (vbytes (a7 + n)).length : Nat) : Int) + (a7 + n) = ((lbytes a0 a1 l2 l3 l4 a6 a7 n).length : Int) + n by omega]
theorem Seg.cut {l : List Int} {p k : Nat} {s : List Int} (h : Seg l p s) (hk : p + s.length ≤ k) : Seg (l.take k) p s := by
  obtain ⟨r, h⟩ := h
  refine ⟨r.take (k - p - s.length), ?_⟩
  rw [List.drop_take, h, List.take_append, List.take_of_length_le (by omega)]
end Go.Proofs.YtbcleckapamicaaDoor.HrP
namespace Go.Proofs.YtbcleckapamicaaDoor.QHc
open Go Go.RowKit Go.Proofs.YtbcleckapamicaaDoorW.PrintWords Go.Proofs.YtbcleckapamicaaDoorW.PrintLast Go.Proofs.YtbcleckapamicaaDoorW.PrintMore Go.Proofs.YtbcleckapamicaaDoor.QHe Go.Proofs.YtbcleckapamicaaDoor.HeP Go.Proofs.YtbcleckapamicaaDoor.Hr Go.Proofs.YtbcleckapamicaaDoor.HrP
set_option linter.unusedVariables false
set_option linter.unusedSimpArgs false
def Bt (l : List Int) : Prop := ∀ x ∈ l, 0 ≤ x ∧ x ≤ 255
instance (l : List Int) : Decidable (Bt l) := inferInstanceAs (Decidable (∀ x ∈ l, 0 ≤ x ∧ x ≤ 255))
def lightB (l2 l3 l4 : List Int) : Bool := decide ((l2.length : Int) ≤ 100 ∧ (l3.length : Int) ≤ 100 ∧ (l4.length : Int) ≤ 200)
theorem light_f (a0 a1 : Int) (l2 l3 l4 : List Int) (a5 a6 a7 : Int) : shibbolethlaw05_light.f a0 a1 l2 l3 l4 a5 a6 a7 = some (lightB l2 l3 l4) := by
 unfold shibbolethlaw05_light.f lightB
 repeat' split
 all_goals first | exact false_decide (by omega) | exact some_decide (by omega)
theorem of_f (a0 a1 : Int) (l2 l3 l4 : List Int) (a5 a6 a7 : Int) (h2 : l2.length ≤ 1000) (h3 : l3.length ≤ 1000) (h4 : l4.length ≤ 1000) : shibbolethlaw05_of.f a0 a1 l2 l3 l4 a5 a6 a7 = some (a0, a1, l2, l3, l4, a5, a6, a7) := by
 unfold shibbolethlaw05_of.f
 simp only [Option.bind_some, List.length_nil, List.nil_append]
 rw [if_pos (by omega), if_pos (by omega), if_pos (by omega)]
theorem hbig_bytes (n w : Int) (h : 0 ≤ n) : Bt (hbig n w) := by
 unfold hbig Bt
 intro x hx
 (repeat' split at hx) <;> simp at hx <;> omega
theorem hbytes_bt {a0 a1 : Int} {l2 l3 l4 : List Int} {a5 a6 a7 n : Int} (h : hright a0 a1 l2 l3 l4 a5 a6 a7) (h2 : Bt l2) (h3 : Bt l3) (h4 : Bt l4) (hn : 0 ≤ n) : Bt (hbytes a0 a1 l2 l3 l4 a5 a6 a7 n) := by
 unfold hright at h
 unfold hbytes
 have b6 := hbig_bytes a6 a7 (by omega)
 intro x hx
 by_cases hz : a0 = 3
 ·rw [if_pos hz] at hx
  simp only [List.mem_append, List.mem_cons, List.not_mem_nil, or_false] at hx
  rcases hx with (rfl | hx) | hx
  ·omega
  ·exact h2 x hx
  ·exact b6 x hx
 ·rw [if_neg hz] at hx
  have b1 := hbig_bytes a1 4 (by omega)
  have bv := Vn.vbytes_bytes (a7 + n)
  have bl := Vn.vbytes_bytes (l4.length : Int)
  simp only [List.mem_append, List.mem_cons, List.not_mem_nil, or_false] at hx
  rcases hx with (((((rfl | hx) | (rfl | hx)) | (rfl | hx)) | hx) | hx) | hx
  ·omega
  ·exact b1 x hx
  ·omega
  ·exact h2 x hx
  ·omega
  ·exact h3 x hx
  ·by_cases h0 : a0 = 0
   ·rw [if_pos h0] at hx
    rcases List.mem_append.1 hx with hx | hx
    ·exact bl x hx
    ·exact h4 x hx
   ·rw [if_neg h0] at hx; cases hx
  ·exact bv x hx
  ·exact b6 x hx
end Go.Proofs.YtbcleckapamicaaDoor.QHc
namespace Go.Proofs.YtbcleckapamicaaDoor.QTl
open Go.RowKit Go.Proofs.YtbcleckapamicaaDoorW.PrintWords Go.Proofs.YtbcleckapamicaaDoorW.PrintLast Go.Proofs.YtbcleckapamicaaDoorW.PrintMore
attribute [local go_sem] max2_int min2_int max_two min_two max_three min_three max_four min_four
set_option linter.unusedVariables false
set_option linter.unusedSimpArgs false
def errW : Option Int → Value
 | none => .nilIface
 | some c => .iface 0 (.int .i64 c)
theorem errW_none : errW none = .nilIface := rfl
theorem errW_some (c : Int) : errW (some c) = .iface 0 (.int .i64 c) := rfl
end Go.Proofs.YtbcleckapamicaaDoor.QTl
namespace Go.Proofs.YtbcleckapamicaaDoor.QTl
open Go.RowKit Go.Proofs.YtbcleckapamicaaDoorW.PrintWords Go.Proofs.YtbcleckapamicaaDoorW.PrintLast Go.Proofs.YtbcleckapamicaaDoorW.PrintMore
attribute [local go_sem] max2_int min2_int max_two min_two max_three min_three max_four min_four
set_option linter.unusedVariables false
set_option linter.unusedSimpArgs false
open Go.Proofs.YtbcleckapamicaaDoor.QHe (shibbolethlaw05_same.f shibbolethlaw05_same.calls shibbolethlaw05_same.mono)
set_option hygiene false
local macro "or170_" : term => `(.cells #[.int .i64 a0_0, .int .i64 a0_1, .slice A0_2 l0_2.length c0_2, .slice A0_3 l0_3.length c0_3, .slice A0_4 l0_4.length c0_4, .int .i64 a0_5, .int .i64 a0_6, .int .i64 a0_7] 46 (0, 0))
local macro "pr170_" : term => `((if t104 = true then ((shibbolethlaw05_same.f k l0_4 l1_4).bind fun t105 => (if t105 = true then (if a0_5 = a1_5 then (if a0_6 = a1_6 then (some (a0_7 == a1_7)) else (some false)) else (some false)) else (some false))) else (some false)))
local macro "pr171_" : term => `((by rw [hg]; exact (below_size (by qb1_ GE101)) : w.heap.size ≤ gb102))
local macro "pr172_" : term => `((by rw [hg]; exact (below_size (by qc0_)) : w.heap.size ≤ gb101))
local macro "pr173_" : term => `((by rw [hg]; exact Nat.ne_of_lt (blk_lt (g := gb101) (o := (or170_)) (by qk_; exact BK101.out)) : gb101 ≠ gb102))
local macro "pr174_" : term => `((by rw [hg]; exact Nat.ne_of_gt (blk_lt (g := gb101) (o := (or170_)) (by qk_; exact BK101.out)) : gb102 ≠ gb101))
local macro "pr175_" : term => `((shibbolethlaw05_same.calls k _ _ l0_2 _ _ l1_2 true _ ?side1 ?side2 ?side3 ?side4 A5.out))
local macro "pr176_" : term => `((shibbolethlaw05_same.calls k _ _ l0_3 _ _ l1_3 true _ ?side1 ?side2 ?side3 ?side4 A7.out))
local macro "pr177_" : term => `((if t103 = true then ((shibbolethlaw05_same.f k l0_3 l1_3).bind fun t104 => (pr170_)) else (some false)))
local macro "pr178_" : term => `((if a0_5 = a1_5 then (if a0_6 = a1_6 then (some (a0_7 == a1_7)) else (some false)) else (some false)))
local macro "pr179_" : term => `((shibbolethlaw05_same.calls k _ _ l0_4 _ _ l1_4 true _ ?side1 ?side2 ?side3 ?side4 A9.out))
local macro "lr170_" : tactic => `(tactic| (exact ⟨by first | rfl | (simp [errW_none, errW_some] <;> rfl) | (simp [*, errW_none, errW_some] <;> rfl), by qb2_ GE101 GE102⟩))
local macro "lr171_" : tactic => `(tactic| (have H1 : (some false) = some r := by rw [if_neg (show ¬ (false = true) by decide)] at H; exact H))
set_option hygiene true
def shibbolethlaw05_told.f (k : Nat) (a0_0 : Int) (a0_1 : Int) (l0_2 : List Int) (l0_3 : List Int) (l0_4 : List Int) (a0_5 : Int) (a0_6 : Int) (a0_7 : Int) (a1_0 : Int) (a1_1 : Int) (l1_2 : List Int) (l1_3 : List Int) (l1_4 : List Int) (a1_5 : Int) (a1_6 : Int) (a1_7 : Int) : Option (Bool) := if a0_0 = a1_0 then (if a0_1 = a1_1 then ((shibbolethlaw05_same.f k l0_2 l1_2).bind fun t103 => (pr177_)) else (some false)) else (some false)
theorem shibbolethlaw05_told.mono : ∀ a0 a1 a2 a3 a4 a5 a6 a7 a8 a9 a10 a11 a12 a13 a14 a15 k, LeO (shibbolethlaw05_told.f k a0 a1 a2 a3 a4 a5 a6 a7 a8 a9 a10 a11 a12 a13 a14 a15) (shibbolethlaw05_told.f (k + 1) a0 a1 a2 a3 a4 a5 a6 a7 a8 a9 a10 a11 a12 a13 a14 a15) := by
 intro a0 a1 a2 a3 a4 a5 a6 a7 a8 a9 a10 a11 a12 a13 a14 a15 k
 unfold shibbolethlaw05_told.f
 repeat' first
   | (with_reducible exact shibbolethlaw05_same.mono _ _ _)
   | (with_reducible exact LeO.refl _)
   | (with_reducible exact LeO.none _)
   | (with_reducible refine LeO.ite ?_ ?_)
   | (with_reducible refine LeO.bind ?_ (fun _ => ?_))
   | exact shibbolethlaw05_same.mono _ _ _
   | exact LeO.none _
   | refine LeO.ite ?_ ?_
   | refine LeO.bind ?_ (fun _ => ?_)
set_option maxHeartbeats 8000000 in
set_option maxRecDepth 100000 in
theorem shibbolethlaw05_told.calls (k : Nat) (a0_0 : Int) (a0_1 : Int) (A0_2 : Option Addr) (c0_2 : Nat) (l0_2 : List Int) (A0_3 : Option Addr) (c0_3 : Nat) (l0_3 : List Int) (A0_4 : Option Addr) (c0_4 : Nat) (l0_4 : List Int) (a0_5 : Int) (a0_6 : Int) (a0_7 : Int) (a1_0 : Int) (a1_1 : Int) (A1_2 : Option Addr) (c1_2 : Nat) (l1_2 : List Int) (A1_3 : Option Addr) (c1_3 : Nat) (l1_3 : List Int) (A1_4 : Option Addr) (c1_4 : Nat) (l1_4 : List Int) (a1_5 : Int) (a1_6 : Int) (a1_7 : Int) (r : Bool) (w : World) (hr0_2 : Kd.C (Kd.int .u8) w A0_2 l0_2.length l0_2) (hc0_2 : l0_2.length ≤ c0_2) (hr0_3 : Kd.C (Kd.int .u8) w A0_3 l0_3.length l0_3) (hc0_3 : l0_3.length ≤ c0_3) (hr0_4 : Kd.C (Kd.int .u8) w A0_4 l0_4.length l0_4) (hc0_4 : l0_4.length ≤ c0_4) (hr1_2 : Kd.C (Kd.int .u8) w A1_2 l1_2.length l1_2) (hc1_2 : l1_2.length ≤ c1_2) (hr1_3 : Kd.C (Kd.int .u8) w A1_3 l1_3.length l1_3) (hc1_3 : l1_3.length ≤ c1_3) (hr1_4 : Kd.C (Kd.int .u8) w A1_4 l1_4.length l1_4) (hc1_4 : l1_4.length ≤ c1_4) (h : shibbolethlaw05_told.f k a0_0 a0_1 l0_2 l0_3 l0_4 a0_5 a0_6 a0_7 a1_0 a1_1 l1_2 l1_3 l1_4 a1_5 a1_6 a1_7 = some r) :
  Calls Tryd.prog 52 #[.agg #[.int .i64 a0_0, .int .i64 a0_1, .slice A0_2 l0_2.length c0_2, .slice A0_3 l0_3.length c0_3, .slice A0_4 l0_4.length c0_4, .int .i64 a0_5, .int .i64 a0_6, .int .i64 a0_7], .agg #[.int .i64 a1_0, .int .i64 a1_1, .slice A1_2 l1_2.length c1_2, .slice A1_3 l1_3.length c1_3, .slice A1_4 l1_4.length c1_4, .int .i64 a1_5, .int .i64 a1_6, .int .i64 a1_7]] w fun e w' => e = .returned (.bool r) ∧ Below w.heap.size w w' := by
 have hu46 := Tryd.underlying46
 have hu44 := Tryd.underlying44
 have HR0_2 := Aside0.mk hr0_2
 have HC0_2 := Aside0.mk hc0_2
 clear hr0_2 hc0_2
 have HR0_3 := Aside0.mk hr0_3
 have HC0_3 := Aside0.mk hc0_3
 clear hr0_3 hc0_3
 have HR0_4 := Aside0.mk hr0_4
 have HC0_4 := Aside0.mk hc0_4
 clear hr0_4 hc0_4
 have HR1_2 := Aside0.mk hr1_2
 have HC1_2 := Aside0.mk hc1_2
 clear hr1_2 hc1_2
 have HR1_3 := Aside0.mk hr1_3
 have HC1_3 := Aside0.mk hc1_3
 clear hr1_3 hc1_3
 have HR1_4 := Aside0.mk hr1_4
 have HC1_4 := Aside0.mk hc1_4
 clear hr1_4 hc1_4
 have HB := Aside0.mk (Below.refl w.heap.size w)
 have H : (if a0_0 = a1_0 then (if a0_1 = a1_1 then ((shibbolethlaw05_same.f k l0_2 l1_2).bind fun t103 => (pr177_)) else (some false)) else (some false)) = some r := h
 clear h
 by_cases c3 : a0_0 = a1_0
 ·rw [if_pos c3] at H
  have c3b0 : (a0_0 == a1_0) = true := beq_iff_eq.mpr c3
  have c3b1 : (a0_0 != a1_0) = false := bne_eq_false_iff_eq.mpr c3
  clear c3
  by_cases c4 : a0_1 = a1_1
  ·rw [if_pos c4] at H
   have c4b0 : (a0_1 == a1_1) = true := beq_iff_eq.mpr c4
   have c4b1 : (a0_1 != a1_1) = false := bne_eq_false_iff_eq.mpr c4
   clear c4
   replace H := Option.bind_eq_some_iff.mp H
   obtain ⟨t103, A50, H⟩ := H
   replace H : (pr177_) = some r := H
   have A5 := Aside0.mk A50
   clear A50
   by_cases c6 : t103 = true
   ·subst c6
    have H1 : ((shibbolethlaw05_same.f k l0_3 l1_3).bind fun t104 => (pr170_)) = some r := by rw [if_pos rfl] at H; exact H
    clear H
    have H := H1
    clear H1
    replace H := Option.bind_eq_some_iff.mp H
    obtain ⟨t104, A70, H⟩ := H
    replace H : (pr170_) = some r := H
    have A7 := Aside0.mk A70
    clear A70
    by_cases c8 : t104 = true
    ·subst c8
     have H1 : ((shibbolethlaw05_same.f k l0_4 l1_4).bind fun t105 => (if t105 = true then (pr178_) else (some false))) = some r := by rw [if_pos rfl] at H; exact H
     clear H
     have H := H1
     clear H1
     replace H := Option.bind_eq_some_iff.mp H
     obtain ⟨t105, A90, H⟩ := H
     replace H : (if t105 = true then (pr178_) else (some false)) = some r := H
     have A9 := Aside0.mk A90
     clear A90
     by_cases c10 : t105 = true
     ·subst c10
      have H1 : (pr178_) = some r := by rw [if_pos rfl] at H; exact H
      clear H
      have H := H1
      clear H1
      by_cases c11 : a0_5 = a1_5
      ·rw [if_pos c11] at H
       have c11b0 : (a0_5 == a1_5) = true := beq_iff_eq.mpr c11
       have c11b1 : (a0_5 != a1_5) = false := bne_eq_false_iff_eq.mpr c11
       clear c11
       by_cases c12 : a0_6 = a1_6
       ·rw [if_pos c12] at H
        have c12b0 : (a0_6 == a1_6) = true := beq_iff_eq.mpr c12
        have c12b1 : (a0_6 != a1_6) = false := bne_eq_false_iff_eq.mpr c12
        clear c12
        obtain rfl := Option.some.inj H
        go_enter Tryd.func52, Tryd.ntmps52
        go_wp2_with (first | ((with_reducible refine gate_dst (N := 2) rfl ?_); refine box_event ?hg (N := 2) ?hd (cs := #[.int .i64 a0_0, .int .i64 a0_1, .slice A0_2 l0_2.length c0_2, .slice A0_3 l0_3.length c0_3, .slice A0_4 l0_4.length c0_4, .int .i64 a0_5, .int .i64 a0_6, .int .i64 a0_7]) (t := 46) ?hr ?_; (case hd => rfl); (case hg => rfl); (case hr => first | (go_simp; done) | (go_simp; rfl)); intro gb101 hg w13 hbox hb; have n0_ := Aside0.mk (below_step (by qc0_) hb); have n1_ := Aside0.mk (hbox); have n2_ := Aside0.mk ((pr172_)); have n3_ := Aside0.mk ((pr172_)); clear HB; have HB := n0_; have BK101 := n1_; have GW101 := n2_; have GE101 := n3_; clear n0_ n1_ n2_ n3_; clear hb hbox hg) | ((with_reducible refine gate_dst (N := 3) rfl ?_); refine box_event ?hg (N := 3) ?hd (cs := #[.int .i64 a1_0, .int .i64 a1_1, .slice A1_2 l1_2.length c1_2, .slice A1_3 l1_3.length c1_3, .slice A1_4 l1_4.length c1_4, .int .i64 a1_5, .int .i64 a1_6, .int .i64 a1_7]) (t := 44) ?hr ?_; (case hd => rfl); (case hg => rfl); (case hr => first | (go_simp; done) | (go_simp; rfl)); intro gb102 hg w14 hbox hb; have n0_ := Aside0.mk (blk_below (g := gb101) (o := (or170_)) (by qk_; exact BK101.out) hb); have n1_ := Aside0.mk (below_step (by qb1_ GE101) hb); have n2_ := Aside0.mk (hbox); have n3_ := Aside0.mk ((pr171_)); have n4_ := Aside0.mk ((pr171_)); have n5_ := Aside0.mk ((pr173_)); have n6_ := Aside0.mk ((pr174_)); clear BK101; clear HB; have BK101 := n0_; have HB := n1_; have BK102 := n2_; have GW102 := n3_; have GE102 := n4_; have NB101_102 := n5_; have NB102_101 := n6_; clear n0_ n1_ n2_ n3_ n4_ n5_ n6_; clear hb hbox hg; have hnb15 := NB101_102.out; have hnc15 := NB102_101.out; have hcz16_0 : w14.cell? ⟨gb101, 0, none⟩ = some (.int .i64 a0_0) := (blk_cell BK101.out 0).trans rfl; have hcz16_1 : w14.cell? ⟨gb101, 1, none⟩ = some (.int .i64 a0_1) := (blk_cell BK101.out 1).trans rfl; have hcz16_2 : w14.cell? ⟨gb101, 2, none⟩ = some (.slice A0_2 l0_2.length c0_2) := (blk_cell BK101.out 2).trans rfl; have hcz16_3 : w14.cell? ⟨gb101, 3, none⟩ = some (.slice A0_3 l0_3.length c0_3) := (blk_cell BK101.out 3).trans rfl; have hcz16_4 : w14.cell? ⟨gb101, 4, none⟩ = some (.slice A0_4 l0_4.length c0_4) := (blk_cell BK101.out 4).trans rfl; have hcz16_5 : w14.cell? ⟨gb101, 5, none⟩ = some (.int .i64 a0_5) := (blk_cell BK101.out 5).trans rfl; have hcz16_6 : w14.cell? ⟨gb101, 6, none⟩ = some (.int .i64 a0_6) := (blk_cell BK101.out 6).trans rfl; have hcz16_7 : w14.cell? ⟨gb101, 7, none⟩ = some (.int .i64 a0_7) := (blk_cell BK101.out 7).trans rfl; have hfz16_0 := blk_frozen BK101.out 0; have hfz16_1 := blk_frozen BK101.out 1; have hfz16_2 := blk_frozen BK101.out 2; have hfz16_3 := blk_frozen BK101.out 3; have hfz16_4 := blk_frozen BK101.out 4; have hfz16_5 := blk_frozen BK101.out 5; have hfz16_6 := blk_frozen BK101.out 6; have hfz16_7 := blk_frozen BK101.out 7; have hcz17_0 : w14.cell? ⟨gb102, 0, none⟩ = some (.int .i64 a1_0) := (blk_cell BK102.out 0).trans rfl; have hcz17_1 : w14.cell? ⟨gb102, 1, none⟩ = some (.int .i64 a1_1) := (blk_cell BK102.out 1).trans rfl; have hcz17_2 : w14.cell? ⟨gb102, 2, none⟩ = some (.slice A1_2 l1_2.length c1_2) := (blk_cell BK102.out 2).trans rfl; have hcz17_3 : w14.cell? ⟨gb102, 3, none⟩ = some (.slice A1_3 l1_3.length c1_3) := (blk_cell BK102.out 3).trans rfl; have hcz17_4 : w14.cell? ⟨gb102, 4, none⟩ = some (.slice A1_4 l1_4.length c1_4) := (blk_cell BK102.out 4).trans rfl; have hcz17_5 : w14.cell? ⟨gb102, 5, none⟩ = some (.int .i64 a1_5) := (blk_cell BK102.out 5).trans rfl; have hcz17_6 : w14.cell? ⟨gb102, 6, none⟩ = some (.int .i64 a1_6) := (blk_cell BK102.out 6).trans rfl; have hcz17_7 : w14.cell? ⟨gb102, 7, none⟩ = some (.int .i64 a1_7) := (blk_cell BK102.out 7).trans rfl; have hfz17_0 := blk_frozen BK102.out 0; have hfz17_1 := blk_frozen BK102.out 1; have hfz17_2 := blk_frozen BK102.out 2; have hfz17_3 := blk_frozen BK102.out 3; have hfz17_4 := blk_frozen BK102.out 4; have hfz17_5 := blk_frozen BK102.out 5; have hfz17_6 := blk_frozen BK102.out 6; have hfz17_7 := blk_frozen BK102.out 7) | (go_at_call 39; (with_reducible refine (pr175_).mono ?_); (case side1 => repeat (first | exact (Kd.C_below HR0_2.out HB.out) | exact HR0_2.out | (with_reducible refine Kd.C_alloc ?_ _) | (with_reducible refine Kd.C_drewN ?_ _) | (with_reducible refine Kd.C_drew ?_))); (case side2 => exact HC0_2.out); (case side3 => repeat (first | exact (Kd.C_below HR1_2.out HB.out) | exact HR1_2.out | (with_reducible refine Kd.C_alloc ?_ _) | (with_reducible refine Kd.C_drewN ?_ _) | (with_reducible refine Kd.C_drew ?_))); (case side4 => exact HC1_2.out); rintro e w' ⟨rfl, ⟨nd, rfl⟩⟩) | (go_at_call 39; (with_reducible refine (pr176_).mono ?_); (case side1 => repeat (first | exact (Kd.C_below HR0_3.out (by qb2_ GE101 GE102)) | (with_reducible refine Kd.C_alloc ?_ _) | (with_reducible refine Kd.C_drewN ?_ _) | (with_reducible refine Kd.C_drew ?_))); (case side2 => exact HC0_3.out); (case side3 => repeat (first | exact (Kd.C_below HR1_3.out (by qb2_ GE101 GE102)) | (with_reducible refine Kd.C_alloc ?_ _) | (with_reducible refine Kd.C_drewN ?_ _) | (with_reducible refine Kd.C_drew ?_))); (case side4 => exact HC1_3.out); rintro e w' ⟨rfl, ⟨nd, rfl⟩⟩) | (go_at_call 39; (with_reducible refine (pr179_).mono ?_); (case side1 => repeat (first | exact (Kd.C_below HR0_4.out (by qb2_ GE101 GE102)) | (with_reducible refine Kd.C_alloc ?_ _) | (with_reducible refine Kd.C_drewN ?_ _) | (with_reducible refine Kd.C_drew ?_))); (case side2 => exact HC0_4.out); (case side3 => repeat (first | exact (Kd.C_below HR1_4.out (by qb2_ GE101 GE102)) | (with_reducible refine Kd.C_alloc ?_ _) | (with_reducible refine Kd.C_drewN ?_ _) | (with_reducible refine Kd.C_drew ?_))); (case side4 => exact HC1_4.out); rintro e w' ⟨rfl, ⟨nd, rfl⟩⟩))
        go_ret
        lr170_
       ·rw [if_neg c12] at H
        have c12b0 : (a0_6 == a1_6) = false := beq_eq_false_iff_ne.mpr c12
        have c12b1 : (a0_6 != a1_6) = true := bne_iff_ne.mpr c12
        obtain rfl := Option.some.inj H
        go_enter Tryd.func52, Tryd.ntmps52
        go_wp2_with (first | ((with_reducible refine gate_dst (N := 2) rfl ?_); refine box_event ?hg (N := 2) ?hd (cs := #[.int .i64 a0_0, .int .i64 a0_1, .slice A0_2 l0_2.length c0_2, .slice A0_3 l0_3.length c0_3, .slice A0_4 l0_4.length c0_4, .int .i64 a0_5, .int .i64 a0_6, .int .i64 a0_7]) (t := 46) ?hr ?_; (case hd => rfl); (case hg => rfl); (case hr => first | (go_simp; done) | (go_simp; rfl)); intro gb101 hg w18 hbox hb; have n0_ := Aside0.mk (below_step (by qc0_) hb); have n1_ := Aside0.mk (hbox); have n2_ := Aside0.mk ((pr172_)); have n3_ := Aside0.mk ((pr172_)); clear HB; have HB := n0_; have BK101 := n1_; have GW101 := n2_; have GE101 := n3_; clear n0_ n1_ n2_ n3_; clear hb hbox hg) | ((with_reducible refine gate_dst (N := 3) rfl ?_); refine box_event ?hg (N := 3) ?hd (cs := #[.int .i64 a1_0, .int .i64 a1_1, .slice A1_2 l1_2.length c1_2, .slice A1_3 l1_3.length c1_3, .slice A1_4 l1_4.length c1_4, .int .i64 a1_5, .int .i64 a1_6, .int .i64 a1_7]) (t := 44) ?hr ?_; (case hd => rfl); (case hg => rfl); (case hr => first | (go_simp; done) | (go_simp; rfl)); intro gb102 hg w19 hbox hb; have n0_ := Aside0.mk (blk_below (g := gb101) (o := (or170_)) (by qk_; exact BK101.out) hb); have n1_ := Aside0.mk (below_step (by qb1_ GE101) hb); have n2_ := Aside0.mk (hbox); have n3_ := Aside0.mk ((pr171_)); have n4_ := Aside0.mk ((pr171_)); have n5_ := Aside0.mk ((pr173_)); have n6_ := Aside0.mk ((pr174_)); clear BK101; clear HB; have BK101 := n0_; have HB := n1_; have BK102 := n2_; have GW102 := n3_; have GE102 := n4_; have NB101_102 := n5_; have NB102_101 := n6_; clear n0_ n1_ n2_ n3_ n4_ n5_ n6_; clear hb hbox hg; have hnb20 := NB101_102.out; have hnc20 := NB102_101.out; have hcz21_0 : w19.cell? ⟨gb101, 0, none⟩ = some (.int .i64 a0_0) := (blk_cell BK101.out 0).trans rfl; have hcz21_1 : w19.cell? ⟨gb101, 1, none⟩ = some (.int .i64 a0_1) := (blk_cell BK101.out 1).trans rfl; have hcz21_2 : w19.cell? ⟨gb101, 2, none⟩ = some (.slice A0_2 l0_2.length c0_2) := (blk_cell BK101.out 2).trans rfl; have hcz21_3 : w19.cell? ⟨gb101, 3, none⟩ = some (.slice A0_3 l0_3.length c0_3) := (blk_cell BK101.out 3).trans rfl; have hcz21_4 : w19.cell? ⟨gb101, 4, none⟩ = some (.slice A0_4 l0_4.length c0_4) := (blk_cell BK101.out 4).trans rfl; have hcz21_5 : w19.cell? ⟨gb101, 5, none⟩ = some (.int .i64 a0_5) := (blk_cell BK101.out 5).trans rfl; have hcz21_6 : w19.cell? ⟨gb101, 6, none⟩ = some (.int .i64 a0_6) := (blk_cell BK101.out 6).trans rfl; have hcz21_7 : w19.cell? ⟨gb101, 7, none⟩ = some (.int .i64 a0_7) := (blk_cell BK101.out 7).trans rfl; have hfz21_0 := blk_frozen BK101.out 0; have hfz21_1 := blk_frozen BK101.out 1; have hfz21_2 := blk_frozen BK101.out 2; have hfz21_3 := blk_frozen BK101.out 3; have hfz21_4 := blk_frozen BK101.out 4; have hfz21_5 := blk_frozen BK101.out 5; have hfz21_6 := blk_frozen BK101.out 6; have hfz21_7 := blk_frozen BK101.out 7; have hcz22_0 : w19.cell? ⟨gb102, 0, none⟩ = some (.int .i64 a1_0) := (blk_cell BK102.out 0).trans rfl; have hcz22_1 : w19.cell? ⟨gb102, 1, none⟩ = some (.int .i64 a1_1) := (blk_cell BK102.out 1).trans rfl; have hcz22_2 : w19.cell? ⟨gb102, 2, none⟩ = some (.slice A1_2 l1_2.length c1_2) := (blk_cell BK102.out 2).trans rfl; have hcz22_3 : w19.cell? ⟨gb102, 3, none⟩ = some (.slice A1_3 l1_3.length c1_3) := (blk_cell BK102.out 3).trans rfl; have hcz22_4 : w19.cell? ⟨gb102, 4, none⟩ = some (.slice A1_4 l1_4.length c1_4) := (blk_cell BK102.out 4).trans rfl; have hcz22_5 : w19.cell? ⟨gb102, 5, none⟩ = some (.int .i64 a1_5) := (blk_cell BK102.out 5).trans rfl; have hcz22_6 : w19.cell? ⟨gb102, 6, none⟩ = some (.int .i64 a1_6) := (blk_cell BK102.out 6).trans rfl; have hcz22_7 : w19.cell? ⟨gb102, 7, none⟩ = some (.int .i64 a1_7) := (blk_cell BK102.out 7).trans rfl; have hfz22_0 := blk_frozen BK102.out 0; have hfz22_1 := blk_frozen BK102.out 1; have hfz22_2 := blk_frozen BK102.out 2; have hfz22_3 := blk_frozen BK102.out 3; have hfz22_4 := blk_frozen BK102.out 4; have hfz22_5 := blk_frozen BK102.out 5; have hfz22_6 := blk_frozen BK102.out 6; have hfz22_7 := blk_frozen BK102.out 7) | (go_at_call 39; (with_reducible refine (pr175_).mono ?_); (case side1 => repeat (first | exact (Kd.C_below HR0_2.out HB.out) | exact HR0_2.out | (with_reducible refine Kd.C_alloc ?_ _) | (with_reducible refine Kd.C_drewN ?_ _) | (with_reducible refine Kd.C_drew ?_))); (case side2 => exact HC0_2.out); (case side3 => repeat (first | exact (Kd.C_below HR1_2.out HB.out) | exact HR1_2.out | (with_reducible refine Kd.C_alloc ?_ _) | (with_reducible refine Kd.C_drewN ?_ _) | (with_reducible refine Kd.C_drew ?_))); (case side4 => exact HC1_2.out); rintro e w' ⟨rfl, ⟨nd, rfl⟩⟩) | (go_at_call 39; (with_reducible refine (pr176_).mono ?_); (case side1 => repeat (first | exact (Kd.C_below HR0_3.out (by qb2_ GE101 GE102)) | (with_reducible refine Kd.C_alloc ?_ _) | (with_reducible refine Kd.C_drewN ?_ _) | (with_reducible refine Kd.C_drew ?_))); (case side2 => exact HC0_3.out); (case side3 => repeat (first | exact (Kd.C_below HR1_3.out (by qb2_ GE101 GE102)) | (with_reducible refine Kd.C_alloc ?_ _) | (with_reducible refine Kd.C_drewN ?_ _) | (with_reducible refine Kd.C_drew ?_))); (case side4 => exact HC1_3.out); rintro e w' ⟨rfl, ⟨nd, rfl⟩⟩) | (go_at_call 39; (with_reducible refine (pr179_).mono ?_); (case side1 => repeat (first | exact (Kd.C_below HR0_4.out (by qb2_ GE101 GE102)) | (with_reducible refine Kd.C_alloc ?_ _) | (with_reducible refine Kd.C_drewN ?_ _) | (with_reducible refine Kd.C_drew ?_))); (case side2 => exact HC0_4.out); (case side3 => repeat (first | exact (Kd.C_below HR1_4.out (by qb2_ GE101 GE102)) | (with_reducible refine Kd.C_alloc ?_ _) | (with_reducible refine Kd.C_drewN ?_ _) | (with_reducible refine Kd.C_drew ?_))); (case side4 => exact HC1_4.out); rintro e w' ⟨rfl, ⟨nd, rfl⟩⟩))
        go_ret
        lr170_
      ·rw [if_neg c11] at H
       have c11b0 : (a0_5 == a1_5) = false := beq_eq_false_iff_ne.mpr c11
       have c11b1 : (a0_5 != a1_5) = true := bne_iff_ne.mpr c11
       obtain rfl := Option.some.inj H
       go_enter Tryd.func52, Tryd.ntmps52
       go_wp2_with (first | ((with_reducible refine gate_dst (N := 2) rfl ?_); refine box_event ?hg (N := 2) ?hd (cs := #[.int .i64 a0_0, .int .i64 a0_1, .slice A0_2 l0_2.length c0_2, .slice A0_3 l0_3.length c0_3, .slice A0_4 l0_4.length c0_4, .int .i64 a0_5, .int .i64 a0_6, .int .i64 a0_7]) (t := 46) ?hr ?_; (case hd => rfl); (case hg => rfl); (case hr => first | (go_simp; done) | (go_simp; rfl)); intro gb101 hg w23 hbox hb; have n0_ := Aside0.mk (below_step (by qc0_) hb); have n1_ := Aside0.mk (hbox); have n2_ := Aside0.mk ((pr172_)); have n3_ := Aside0.mk ((pr172_)); clear HB; have HB := n0_; have BK101 := n1_; have GW101 := n2_; have GE101 := n3_; clear n0_ n1_ n2_ n3_; clear hb hbox hg) | ((with_reducible refine gate_dst (N := 3) rfl ?_); refine box_event ?hg (N := 3) ?hd (cs := #[.int .i64 a1_0, .int .i64 a1_1, .slice A1_2 l1_2.length c1_2, .slice A1_3 l1_3.length c1_3, .slice A1_4 l1_4.length c1_4, .int .i64 a1_5, .int .i64 a1_6, .int .i64 a1_7]) (t := 44) ?hr ?_; (case hd => rfl); (case hg => rfl); (case hr => first | (go_simp; done) | (go_simp; rfl)); intro gb102 hg w24 hbox hb; have n0_ := Aside0.mk (blk_below (g := gb101) (o := (or170_)) (by qk_; exact BK101.out) hb); have n1_ := Aside0.mk (below_step (by qb1_ GE101) hb); have n2_ := Aside0.mk (hbox); have n3_ := Aside0.mk ((pr171_)); have n4_ := Aside0.mk ((pr171_)); have n5_ := Aside0.mk ((pr173_)); have n6_ := Aside0.mk ((pr174_)); clear BK101; clear HB; have BK101 := n0_; have HB := n1_; have BK102 := n2_; have GW102 := n3_; have GE102 := n4_; have NB101_102 := n5_; have NB102_101 := n6_; clear n0_ n1_ n2_ n3_ n4_ n5_ n6_; clear hb hbox hg; have hnb25 := NB101_102.out; have hnc25 := NB102_101.out; have hcz26_0 : w24.cell? ⟨gb101, 0, none⟩ = some (.int .i64 a0_0) := (blk_cell BK101.out 0).trans rfl; have hcz26_1 : w24.cell? ⟨gb101, 1, none⟩ = some (.int .i64 a0_1) := (blk_cell BK101.out 1).trans rfl; have hcz26_2 : w24.cell? ⟨gb101, 2, none⟩ = some (.slice A0_2 l0_2.length c0_2) := (blk_cell BK101.out 2).trans rfl; have hcz26_3 : w24.cell? ⟨gb101, 3, none⟩ = some (.slice A0_3 l0_3.length c0_3) := (blk_cell BK101.out 3).trans rfl; have hcz26_4 : w24.cell? ⟨gb101, 4, none⟩ = some (.slice A0_4 l0_4.length c0_4) := (blk_cell BK101.out 4).trans rfl; have hcz26_5 : w24.cell? ⟨gb101, 5, none⟩ = some (.int .i64 a0_5) := (blk_cell BK101.out 5).trans rfl; have hcz26_6 : w24.cell? ⟨gb101, 6, none⟩ = some (.int .i64 a0_6) := (blk_cell BK101.out 6).trans rfl; have hcz26_7 : w24.cell? ⟨gb101, 7, none⟩ = some (.int .i64 a0_7) := (blk_cell BK101.out 7).trans rfl; have hfz26_0 := blk_frozen BK101.out 0; have hfz26_1 := blk_frozen BK101.out 1; have hfz26_2 := blk_frozen BK101.out 2; have hfz26_3 := blk_frozen BK101.out 3; have hfz26_4 := blk_frozen BK101.out 4; have hfz26_5 := blk_frozen BK101.out 5; have hfz26_6 := blk_frozen BK101.out 6; have hfz26_7 := blk_frozen BK101.out 7; have hcz27_0 : w24.cell? ⟨gb102, 0, none⟩ = some (.int .i64 a1_0) := (blk_cell BK102.out 0).trans rfl; have hcz27_1 : w24.cell? ⟨gb102, 1, none⟩ = some (.int .i64 a1_1) := (blk_cell BK102.out 1).trans rfl; have hcz27_2 : w24.cell? ⟨gb102, 2, none⟩ = some (.slice A1_2 l1_2.length c1_2) := (blk_cell BK102.out 2).trans rfl; have hcz27_3 : w24.cell? ⟨gb102, 3, none⟩ = some (.slice A1_3 l1_3.length c1_3) := (blk_cell BK102.out 3).trans rfl; have hcz27_4 : w24.cell? ⟨gb102, 4, none⟩ = some (.slice A1_4 l1_4.length c1_4) := (blk_cell BK102.out 4).trans rfl; have hcz27_5 : w24.cell? ⟨gb102, 5, none⟩ = some (.int .i64 a1_5) := (blk_cell BK102.out 5).trans rfl; have hcz27_6 : w24.cell? ⟨gb102, 6, none⟩ = some (.int .i64 a1_6) := (blk_cell BK102.out 6).trans rfl; have hcz27_7 : w24.cell? ⟨gb102, 7, none⟩ = some (.int .i64 a1_7) := (blk_cell BK102.out 7).trans rfl; have hfz27_0 := blk_frozen BK102.out 0; have hfz27_1 := blk_frozen BK102.out 1; have hfz27_2 := blk_frozen BK102.out 2; have hfz27_3 := blk_frozen BK102.out 3; have hfz27_4 := blk_frozen BK102.out 4; have hfz27_5 := blk_frozen BK102.out 5; have hfz27_6 := blk_frozen BK102.out 6; have hfz27_7 := blk_frozen BK102.out 7) | (go_at_call 39; (with_reducible refine (pr175_).mono ?_); (case side1 => repeat (first | exact (Kd.C_below HR0_2.out HB.out) | exact HR0_2.out | (with_reducible refine Kd.C_alloc ?_ _) | (with_reducible refine Kd.C_drewN ?_ _) | (with_reducible refine Kd.C_drew ?_))); (case side2 => exact HC0_2.out); (case side3 => repeat (first | exact (Kd.C_below HR1_2.out HB.out) | exact HR1_2.out | (with_reducible refine Kd.C_alloc ?_ _) | (with_reducible refine Kd.C_drewN ?_ _) | (with_reducible refine Kd.C_drew ?_))); (case side4 => exact HC1_2.out); rintro e w' ⟨rfl, ⟨nd, rfl⟩⟩) | (go_at_call 39; (with_reducible refine (pr176_).mono ?_); (case side1 => repeat (first | exact (Kd.C_below HR0_3.out (by qb2_ GE101 GE102)) | (with_reducible refine Kd.C_alloc ?_ _) | (with_reducible refine Kd.C_drewN ?_ _) | (with_reducible refine Kd.C_drew ?_))); (case side2 => exact HC0_3.out); (case side3 => repeat (first | exact (Kd.C_below HR1_3.out (by qb2_ GE101 GE102)) | (with_reducible refine Kd.C_alloc ?_ _) | (with_reducible refine Kd.C_drewN ?_ _) | (with_reducible refine Kd.C_drew ?_))); (case side4 => exact HC1_3.out); rintro e w' ⟨rfl, ⟨nd, rfl⟩⟩) | (go_at_call 39; (with_reducible refine (pr179_).mono ?_); (case side1 => repeat (first | exact (Kd.C_below HR0_4.out (by qb2_ GE101 GE102)) | (with_reducible refine Kd.C_alloc ?_ _) | (with_reducible refine Kd.C_drewN ?_ _) | (with_reducible refine Kd.C_drew ?_))); (case side2 => exact HC0_4.out); (case side3 => repeat (first | exact (Kd.C_below HR1_4.out (by qb2_ GE101 GE102)) | (with_reducible refine Kd.C_alloc ?_ _) | (with_reducible refine Kd.C_drewN ?_ _) | (with_reducible refine Kd.C_drew ?_))); (case side4 => exact HC1_4.out); rintro e w' ⟨rfl, ⟨nd, rfl⟩⟩))
       go_ret
       lr170_
     ·replace c10 := Bool.eq_false_iff.mpr c10
      subst c10
      lr171_
      clear H
      have H := H1
      clear H1
      obtain rfl := Option.some.inj H
      go_enter Tryd.func52, Tryd.ntmps52
      go_wp2_with (first | ((with_reducible refine gate_dst (N := 2) rfl ?_); refine box_event ?hg (N := 2) ?hd (cs := #[.int .i64 a0_0, .int .i64 a0_1, .slice A0_2 l0_2.length c0_2, .slice A0_3 l0_3.length c0_3, .slice A0_4 l0_4.length c0_4, .int .i64 a0_5, .int .i64 a0_6, .int .i64 a0_7]) (t := 46) ?hr ?_; (case hd => rfl); (case hg => rfl); (case hr => first | (go_simp; done) | (go_simp; rfl)); intro gb101 hg w28 hbox hb; have n0_ := Aside0.mk (below_step (by qc0_) hb); have n1_ := Aside0.mk (hbox); have n2_ := Aside0.mk ((pr172_)); have n3_ := Aside0.mk ((pr172_)); clear HB; have HB := n0_; have BK101 := n1_; have GW101 := n2_; have GE101 := n3_; clear n0_ n1_ n2_ n3_; clear hb hbox hg) | ((with_reducible refine gate_dst (N := 3) rfl ?_); refine box_event ?hg (N := 3) ?hd (cs := #[.int .i64 a1_0, .int .i64 a1_1, .slice A1_2 l1_2.length c1_2, .slice A1_3 l1_3.length c1_3, .slice A1_4 l1_4.length c1_4, .int .i64 a1_5, .int .i64 a1_6, .int .i64 a1_7]) (t := 44) ?hr ?_; (case hd => rfl); (case hg => rfl); (case hr => first | (go_simp; done) | (go_simp; rfl)); intro gb102 hg w29 hbox hb; have n0_ := Aside0.mk (blk_below (g := gb101) (o := (or170_)) (by qk_; exact BK101.out) hb); have n1_ := Aside0.mk (below_step (by qb1_ GE101) hb); have n2_ := Aside0.mk (hbox); have n3_ := Aside0.mk ((pr171_)); have n4_ := Aside0.mk ((pr171_)); have n5_ := Aside0.mk ((pr173_)); have n6_ := Aside0.mk ((pr174_)); clear BK101; clear HB; have BK101 := n0_; have HB := n1_; have BK102 := n2_; have GW102 := n3_; have GE102 := n4_; have NB101_102 := n5_; have NB102_101 := n6_; clear n0_ n1_ n2_ n3_ n4_ n5_ n6_; clear hb hbox hg; have hnb30 := NB101_102.out; have hnc30 := NB102_101.out; have hcz31_0 : w29.cell? ⟨gb101, 0, none⟩ = some (.int .i64 a0_0) := (blk_cell BK101.out 0).trans rfl; have hcz31_1 : w29.cell? ⟨gb101, 1, none⟩ = some (.int .i64 a0_1) := (blk_cell BK101.out 1).trans rfl; have hcz31_2 : w29.cell? ⟨gb101, 2, none⟩ = some (.slice A0_2 l0_2.length c0_2) := (blk_cell BK101.out 2).trans rfl; have hcz31_3 : w29.cell? ⟨gb101, 3, none⟩ = some (.slice A0_3 l0_3.length c0_3) := (blk_cell BK101.out 3).trans rfl; have hcz31_4 : w29.cell? ⟨gb101, 4, none⟩ = some (.slice A0_4 l0_4.length c0_4) := (blk_cell BK101.out 4).trans rfl; have hcz31_5 : w29.cell? ⟨gb101, 5, none⟩ = some (.int .i64 a0_5) := (blk_cell BK101.out 5).trans rfl; have hcz31_6 : w29.cell? ⟨gb101, 6, none⟩ = some (.int .i64 a0_6) := (blk_cell BK101.out 6).trans rfl; have hcz31_7 : w29.cell? ⟨gb101, 7, none⟩ = some (.int .i64 a0_7) := (blk_cell BK101.out 7).trans rfl; have hfz31_0 := blk_frozen BK101.out 0; have hfz31_1 := blk_frozen BK101.out 1; have hfz31_2 := blk_frozen BK101.out 2; have hfz31_3 := blk_frozen BK101.out 3; have hfz31_4 := blk_frozen BK101.out 4; have hfz31_5 := blk_frozen BK101.out 5; have hfz31_6 := blk_frozen BK101.out 6; have hfz31_7 := blk_frozen BK101.out 7; have hcz32_0 : w29.cell? ⟨gb102, 0, none⟩ = some (.int .i64 a1_0) := (blk_cell BK102.out 0).trans rfl; have hcz32_1 : w29.cell? ⟨gb102, 1, none⟩ = some (.int .i64 a1_1) := (blk_cell BK102.out 1).trans rfl; have hcz32_2 : w29.cell? ⟨gb102, 2, none⟩ = some (.slice A1_2 l1_2.length c1_2) := (blk_cell BK102.out 2).trans rfl; have hcz32_3 : w29.cell? ⟨gb102, 3, none⟩ = some (.slice A1_3 l1_3.length c1_3) := (blk_cell BK102.out 3).trans rfl; have hcz32_4 : w29.cell? ⟨gb102, 4, none⟩ = some (.slice A1_4 l1_4.length c1_4) := (blk_cell BK102.out 4).trans rfl; have hcz32_5 : w29.cell? ⟨gb102, 5, none⟩ = some (.int .i64 a1_5) := (blk_cell BK102.out 5).trans rfl; have hcz32_6 : w29.cell? ⟨gb102, 6, none⟩ = some (.int .i64 a1_6) := (blk_cell BK102.out 6).trans rfl; have hcz32_7 : w29.cell? ⟨gb102, 7, none⟩ = some (.int .i64 a1_7) := (blk_cell BK102.out 7).trans rfl; have hfz32_0 := blk_frozen BK102.out 0; have hfz32_1 := blk_frozen BK102.out 1; have hfz32_2 := blk_frozen BK102.out 2; have hfz32_3 := blk_frozen BK102.out 3; have hfz32_4 := blk_frozen BK102.out 4; have hfz32_5 := blk_frozen BK102.out 5; have hfz32_6 := blk_frozen BK102.out 6; have hfz32_7 := blk_frozen BK102.out 7) | (go_at_call 39; (with_reducible refine (pr175_).mono ?_); (case side1 => repeat (first | exact (Kd.C_below HR0_2.out HB.out) | exact HR0_2.out | (with_reducible refine Kd.C_alloc ?_ _) | (with_reducible refine Kd.C_drewN ?_ _) | (with_reducible refine Kd.C_drew ?_))); (case side2 => exact HC0_2.out); (case side3 => repeat (first | exact (Kd.C_below HR1_2.out HB.out) | exact HR1_2.out | (with_reducible refine Kd.C_alloc ?_ _) | (with_reducible refine Kd.C_drewN ?_ _) | (with_reducible refine Kd.C_drew ?_))); (case side4 => exact HC1_2.out); rintro e w' ⟨rfl, ⟨nd, rfl⟩⟩) | (go_at_call 39; (with_reducible refine (pr176_).mono ?_); (case side1 => repeat (first | exact (Kd.C_below HR0_3.out (by qb2_ GE101 GE102)) | (with_reducible refine Kd.C_alloc ?_ _) | (with_reducible refine Kd.C_drewN ?_ _) | (with_reducible refine Kd.C_drew ?_))); (case side2 => exact HC0_3.out); (case side3 => repeat (first | exact (Kd.C_below HR1_3.out (by qb2_ GE101 GE102)) | (with_reducible refine Kd.C_alloc ?_ _) | (with_reducible refine Kd.C_drewN ?_ _) | (with_reducible refine Kd.C_drew ?_))); (case side4 => exact HC1_3.out); rintro e w' ⟨rfl, ⟨nd, rfl⟩⟩) | (go_at_call 39; (with_reducible refine (shibbolethlaw05_same.calls k _ _ l0_4 _ _ l1_4 false _ ?side1 ?side2 ?side3 ?side4 A9.out).mono ?_); (case side1 => repeat (first | exact (Kd.C_below HR0_4.out (by qb2_ GE101 GE102)) | (with_reducible refine Kd.C_alloc ?_ _) | (with_reducible refine Kd.C_drewN ?_ _) | (with_reducible refine Kd.C_drew ?_))); (case side2 => exact HC0_4.out); (case side3 => repeat (first | exact (Kd.C_below HR1_4.out (by qb2_ GE101 GE102)) | (with_reducible refine Kd.C_alloc ?_ _) | (with_reducible refine Kd.C_drewN ?_ _) | (with_reducible refine Kd.C_drew ?_))); (case side4 => exact HC1_4.out); rintro e w' ⟨rfl, ⟨nd, rfl⟩⟩))
      go_ret
      lr170_
    ·replace c8 := Bool.eq_false_iff.mpr c8
     subst c8
     lr171_
     clear H
     have H := H1
     clear H1
     obtain rfl := Option.some.inj H
     go_enter Tryd.func52, Tryd.ntmps52
     go_wp2_with (first | ((with_reducible refine gate_dst (N := 2) rfl ?_); refine box_event ?hg (N := 2) ?hd (cs := #[.int .i64 a0_0, .int .i64 a0_1, .slice A0_2 l0_2.length c0_2, .slice A0_3 l0_3.length c0_3, .slice A0_4 l0_4.length c0_4, .int .i64 a0_5, .int .i64 a0_6, .int .i64 a0_7]) (t := 46) ?hr ?_; (case hd => rfl); (case hg => rfl); (case hr => first | (go_simp; done) | (go_simp; rfl)); intro gb101 hg w33 hbox hb; have n0_ := Aside0.mk (below_step (by qc0_) hb); have n1_ := Aside0.mk (hbox); have n2_ := Aside0.mk ((pr172_)); have n3_ := Aside0.mk ((pr172_)); clear HB; have HB := n0_; have BK101 := n1_; have GW101 := n2_; have GE101 := n3_; clear n0_ n1_ n2_ n3_; clear hb hbox hg) | ((with_reducible refine gate_dst (N := 3) rfl ?_); refine box_event ?hg (N := 3) ?hd (cs := #[.int .i64 a1_0, .int .i64 a1_1, .slice A1_2 l1_2.length c1_2, .slice A1_3 l1_3.length c1_3, .slice A1_4 l1_4.length c1_4, .int .i64 a1_5, .int .i64 a1_6, .int .i64 a1_7]) (t := 44) ?hr ?_; (case hd => rfl); (case hg => rfl); (case hr => first | (go_simp; done) | (go_simp; rfl)); intro gb102 hg w34 hbox hb; have n0_ := Aside0.mk (blk_below (g := gb101) (o := (or170_)) (by qk_; exact BK101.out) hb); have n1_ := Aside0.mk (below_step (by qb1_ GE101) hb); have n2_ := Aside0.mk (hbox); have n3_ := Aside0.mk ((pr171_)); have n4_ := Aside0.mk ((pr171_)); have n5_ := Aside0.mk ((pr173_)); have n6_ := Aside0.mk ((pr174_)); clear BK101; clear HB; have BK101 := n0_; have HB := n1_; have BK102 := n2_; have GW102 := n3_; have GE102 := n4_; have NB101_102 := n5_; have NB102_101 := n6_; clear n0_ n1_ n2_ n3_ n4_ n5_ n6_; clear hb hbox hg; have hnb35 := NB101_102.out; have hnc35 := NB102_101.out; have hcz36_0 : w34.cell? ⟨gb101, 0, none⟩ = some (.int .i64 a0_0) := (blk_cell BK101.out 0).trans rfl; have hcz36_1 : w34.cell? ⟨gb101, 1, none⟩ = some (.int .i64 a0_1) := (blk_cell BK101.out 1).trans rfl; have hcz36_2 : w34.cell? ⟨gb101, 2, none⟩ = some (.slice A0_2 l0_2.length c0_2) := (blk_cell BK101.out 2).trans rfl; have hcz36_3 : w34.cell? ⟨gb101, 3, none⟩ = some (.slice A0_3 l0_3.length c0_3) := (blk_cell BK101.out 3).trans rfl; have hcz36_4 : w34.cell? ⟨gb101, 4, none⟩ = some (.slice A0_4 l0_4.length c0_4) := (blk_cell BK101.out 4).trans rfl; have hcz36_5 : w34.cell? ⟨gb101, 5, none⟩ = some (.int .i64 a0_5) := (blk_cell BK101.out 5).trans rfl; have hcz36_6 : w34.cell? ⟨gb101, 6, none⟩ = some (.int .i64 a0_6) := (blk_cell BK101.out 6).trans rfl; have hcz36_7 : w34.cell? ⟨gb101, 7, none⟩ = some (.int .i64 a0_7) := (blk_cell BK101.out 7).trans rfl; have hfz36_0 := blk_frozen BK101.out 0; have hfz36_1 := blk_frozen BK101.out 1; have hfz36_2 := blk_frozen BK101.out 2; have hfz36_3 := blk_frozen BK101.out 3; have hfz36_4 := blk_frozen BK101.out 4; have hfz36_5 := blk_frozen BK101.out 5; have hfz36_6 := blk_frozen BK101.out 6; have hfz36_7 := blk_frozen BK101.out 7; have hcz37_0 : w34.cell? ⟨gb102, 0, none⟩ = some (.int .i64 a1_0) := (blk_cell BK102.out 0).trans rfl; have hcz37_1 : w34.cell? ⟨gb102, 1, none⟩ = some (.int .i64 a1_1) := (blk_cell BK102.out 1).trans rfl; have hcz37_2 : w34.cell? ⟨gb102, 2, none⟩ = some (.slice A1_2 l1_2.length c1_2) := (blk_cell BK102.out 2).trans rfl; have hcz37_3 : w34.cell? ⟨gb102, 3, none⟩ = some (.slice A1_3 l1_3.length c1_3) := (blk_cell BK102.out 3).trans rfl; have hcz37_4 : w34.cell? ⟨gb102, 4, none⟩ = some (.slice A1_4 l1_4.length c1_4) := (blk_cell BK102.out 4).trans rfl; have hcz37_5 : w34.cell? ⟨gb102, 5, none⟩ = some (.int .i64 a1_5) := (blk_cell BK102.out 5).trans rfl; have hcz37_6 : w34.cell? ⟨gb102, 6, none⟩ = some (.int .i64 a1_6) := (blk_cell BK102.out 6).trans rfl; have hcz37_7 : w34.cell? ⟨gb102, 7, none⟩ = some (.int .i64 a1_7) := (blk_cell BK102.out 7).trans rfl; have hfz37_0 := blk_frozen BK102.out 0; have hfz37_1 := blk_frozen BK102.out 1; have hfz37_2 := blk_frozen BK102.out 2; have hfz37_3 := blk_frozen BK102.out 3; have hfz37_4 := blk_frozen BK102.out 4; have hfz37_5 := blk_frozen BK102.out 5; have hfz37_6 := blk_frozen BK102.out 6; have hfz37_7 := blk_frozen BK102.out 7) | (go_at_call 39; (with_reducible refine (pr175_).mono ?_); (case side1 => repeat (first | exact (Kd.C_below HR0_2.out HB.out) | exact HR0_2.out | (with_reducible refine Kd.C_alloc ?_ _) | (with_reducible refine Kd.C_drewN ?_ _) | (with_reducible refine Kd.C_drew ?_))); (case side2 => exact HC0_2.out); (case side3 => repeat (first | exact (Kd.C_below HR1_2.out HB.out) | exact HR1_2.out | (with_reducible refine Kd.C_alloc ?_ _) | (with_reducible refine Kd.C_drewN ?_ _) | (with_reducible refine Kd.C_drew ?_))); (case side4 => exact HC1_2.out); rintro e w' ⟨rfl, ⟨nd, rfl⟩⟩) | (go_at_call 39; (with_reducible refine (shibbolethlaw05_same.calls k _ _ l0_3 _ _ l1_3 false _ ?side1 ?side2 ?side3 ?side4 A7.out).mono ?_); (case side1 => repeat (first | exact (Kd.C_below HR0_3.out (by qb2_ GE101 GE102)) | (with_reducible refine Kd.C_alloc ?_ _) | (with_reducible refine Kd.C_drewN ?_ _) | (with_reducible refine Kd.C_drew ?_))); (case side2 => exact HC0_3.out); (case side3 => repeat (first | exact (Kd.C_below HR1_3.out (by qb2_ GE101 GE102)) | (with_reducible refine Kd.C_alloc ?_ _) | (with_reducible refine Kd.C_drewN ?_ _) | (with_reducible refine Kd.C_drew ?_))); (case side4 => exact HC1_3.out); rintro e w' ⟨rfl, ⟨nd, rfl⟩⟩))
     go_ret
     lr170_
   ·replace c6 := Bool.eq_false_iff.mpr c6
    subst c6
    lr171_
    clear H
    have H := H1
    clear H1
    obtain rfl := Option.some.inj H
    go_enter Tryd.func52, Tryd.ntmps52
    go_wp2_with (first | ((with_reducible refine gate_dst (N := 2) rfl ?_); refine box_event ?hg (N := 2) ?hd (cs := #[.int .i64 a0_0, .int .i64 a0_1, .slice A0_2 l0_2.length c0_2, .slice A0_3 l0_3.length c0_3, .slice A0_4 l0_4.length c0_4, .int .i64 a0_5, .int .i64 a0_6, .int .i64 a0_7]) (t := 46) ?hr ?_; (case hd => rfl); (case hg => rfl); (case hr => first | (go_simp; done) | (go_simp; rfl)); intro gb101 hg w38 hbox hb; have n0_ := Aside0.mk (below_step (by qc0_) hb); have n1_ := Aside0.mk (hbox); have n2_ := Aside0.mk ((pr172_)); have n3_ := Aside0.mk ((pr172_)); clear HB; have HB := n0_; have BK101 := n1_; have GW101 := n2_; have GE101 := n3_; clear n0_ n1_ n2_ n3_; clear hb hbox hg) | ((with_reducible refine gate_dst (N := 3) rfl ?_); refine box_event ?hg (N := 3) ?hd (cs := #[.int .i64 a1_0, .int .i64 a1_1, .slice A1_2 l1_2.length c1_2, .slice A1_3 l1_3.length c1_3, .slice A1_4 l1_4.length c1_4, .int .i64 a1_5, .int .i64 a1_6, .int .i64 a1_7]) (t := 44) ?hr ?_; (case hd => rfl); (case hg => rfl); (case hr => first | (go_simp; done) | (go_simp; rfl)); intro gb102 hg w39 hbox hb; have n0_ := Aside0.mk (blk_below (g := gb101) (o := (or170_)) (by qk_; exact BK101.out) hb); have n1_ := Aside0.mk (below_step (by qb1_ GE101) hb); have n2_ := Aside0.mk (hbox); have n3_ := Aside0.mk ((pr171_)); have n4_ := Aside0.mk ((pr171_)); have n5_ := Aside0.mk ((pr173_)); have n6_ := Aside0.mk ((pr174_)); clear BK101; clear HB; have BK101 := n0_; have HB := n1_; have BK102 := n2_; have GW102 := n3_; have GE102 := n4_; have NB101_102 := n5_; have NB102_101 := n6_; clear n0_ n1_ n2_ n3_ n4_ n5_ n6_; clear hb hbox hg; have hnb40 := NB101_102.out; have hnc40 := NB102_101.out; have hcz41_0 : w39.cell? ⟨gb101, 0, none⟩ = some (.int .i64 a0_0) := (blk_cell BK101.out 0).trans rfl; have hcz41_1 : w39.cell? ⟨gb101, 1, none⟩ = some (.int .i64 a0_1) := (blk_cell BK101.out 1).trans rfl; have hcz41_2 : w39.cell? ⟨gb101, 2, none⟩ = some (.slice A0_2 l0_2.length c0_2) := (blk_cell BK101.out 2).trans rfl; have hcz41_3 : w39.cell? ⟨gb101, 3, none⟩ = some (.slice A0_3 l0_3.length c0_3) := (blk_cell BK101.out 3).trans rfl; have hcz41_4 : w39.cell? ⟨gb101, 4, none⟩ = some (.slice A0_4 l0_4.length c0_4) := (blk_cell BK101.out 4).trans rfl; have hcz41_5 : w39.cell? ⟨gb101, 5, none⟩ = some (.int .i64 a0_5) := (blk_cell BK101.out 5).trans rfl; have hcz41_6 : w39.cell? ⟨gb101, 6, none⟩ = some (.int .i64 a0_6) := (blk_cell BK101.out 6).trans rfl; have hcz41_7 : w39.cell? ⟨gb101, 7, none⟩ = some (.int .i64 a0_7) := (blk_cell BK101.out 7).trans rfl; have hfz41_0 := blk_frozen BK101.out 0; have hfz41_1 := blk_frozen BK101.out 1; have hfz41_2 := blk_frozen BK101.out 2; have hfz41_3 := blk_frozen BK101.out 3; have hfz41_4 := blk_frozen BK101.out 4; have hfz41_5 := blk_frozen BK101.out 5; have hfz41_6 := blk_frozen BK101.out 6; have hfz41_7 := blk_frozen BK101.out 7; have hcz42_0 : w39.cell? ⟨gb102, 0, none⟩ = some (.int .i64 a1_0) := (blk_cell BK102.out 0).trans rfl; have hcz42_1 : w39.cell? ⟨gb102, 1, none⟩ = some (.int .i64 a1_1) := (blk_cell BK102.out 1).trans rfl; have hcz42_2 : w39.cell? ⟨gb102, 2, none⟩ = some (.slice A1_2 l1_2.length c1_2) := (blk_cell BK102.out 2).trans rfl; have hcz42_3 : w39.cell? ⟨gb102, 3, none⟩ = some (.slice A1_3 l1_3.length c1_3) := (blk_cell BK102.out 3).trans rfl; have hcz42_4 : w39.cell? ⟨gb102, 4, none⟩ = some (.slice A1_4 l1_4.length c1_4) := (blk_cell BK102.out 4).trans rfl; have hcz42_5 : w39.cell? ⟨gb102, 5, none⟩ = some (.int .i64 a1_5) := (blk_cell BK102.out 5).trans rfl; have hcz42_6 : w39.cell? ⟨gb102, 6, none⟩ = some (.int .i64 a1_6) := (blk_cell BK102.out 6).trans rfl; have hcz42_7 : w39.cell? ⟨gb102, 7, none⟩ = some (.int .i64 a1_7) := (blk_cell BK102.out 7).trans rfl; have hfz42_0 := blk_frozen BK102.out 0; have hfz42_1 := blk_frozen BK102.out 1; have hfz42_2 := blk_frozen BK102.out 2; have hfz42_3 := blk_frozen BK102.out 3; have hfz42_4 := blk_frozen BK102.out 4; have hfz42_5 := blk_frozen BK102.out 5; have hfz42_6 := blk_frozen BK102.out 6; have hfz42_7 := blk_frozen BK102.out 7) | (go_at_call 39; (with_reducible refine (shibbolethlaw05_same.calls k _ _ l0_2 _ _ l1_2 false _ ?side1 ?side2 ?side3 ?side4 A5.out).mono ?_); (case side1 => repeat (first | exact (Kd.C_below HR0_2.out HB.out) | exact HR0_2.out | (with_reducible refine Kd.C_alloc ?_ _) | (with_reducible refine Kd.C_drewN ?_ _) | (with_reducible refine Kd.C_drew ?_))); (case side2 => exact HC0_2.out); (case side3 => repeat (first | exact (Kd.C_below HR1_2.out HB.out) | exact HR1_2.out | (with_reducible refine Kd.C_alloc ?_ _) | (with_reducible refine Kd.C_drewN ?_ _) | (with_reducible refine Kd.C_drew ?_))); (case side4 => exact HC1_2.out); rintro e w' ⟨rfl, ⟨nd, rfl⟩⟩))
    go_ret
    lr170_
  ·rw [if_neg c4] at H
   have c4b0 : (a0_1 == a1_1) = false := beq_eq_false_iff_ne.mpr c4
   have c4b1 : (a0_1 != a1_1) = true := bne_iff_ne.mpr c4
   obtain rfl := Option.some.inj H
   go_enter Tryd.func52, Tryd.ntmps52
   go_wp2_with (first | ((with_reducible refine gate_dst (N := 2) rfl ?_); refine box_event ?hg (N := 2) ?hd (cs := #[.int .i64 a0_0, .int .i64 a0_1, .slice A0_2 l0_2.length c0_2, .slice A0_3 l0_3.length c0_3, .slice A0_4 l0_4.length c0_4, .int .i64 a0_5, .int .i64 a0_6, .int .i64 a0_7]) (t := 46) ?hr ?_; (case hd => rfl); (case hg => rfl); (case hr => first | (go_simp; done) | (go_simp; rfl)); intro gb101 hg w43 hbox hb; have n0_ := Aside0.mk (below_step (by qc0_) hb); have n1_ := Aside0.mk (hbox); have n2_ := Aside0.mk ((pr172_)); have n3_ := Aside0.mk ((pr172_)); clear HB; have HB := n0_; have BK101 := n1_; have GW101 := n2_; have GE101 := n3_; clear n0_ n1_ n2_ n3_; clear hb hbox hg) | ((with_reducible refine gate_dst (N := 3) rfl ?_); refine box_event ?hg (N := 3) ?hd (cs := #[.int .i64 a1_0, .int .i64 a1_1, .slice A1_2 l1_2.length c1_2, .slice A1_3 l1_3.length c1_3, .slice A1_4 l1_4.length c1_4, .int .i64 a1_5, .int .i64 a1_6, .int .i64 a1_7]) (t := 44) ?hr ?_; (case hd => rfl); (case hg => rfl); (case hr => first | (go_simp; done) | (go_simp; rfl)); intro gb102 hg w44 hbox hb; have n0_ := Aside0.mk (blk_below (g := gb101) (o := (or170_)) (by qk_; exact BK101.out) hb); have n1_ := Aside0.mk (below_step (by qb1_ GE101) hb); have n2_ := Aside0.mk (hbox); have n3_ := Aside0.mk ((pr171_)); have n4_ := Aside0.mk ((pr171_)); have n5_ := Aside0.mk ((pr173_)); have n6_ := Aside0.mk ((pr174_)); clear BK101; clear HB; have BK101 := n0_; have HB := n1_; have BK102 := n2_; have GW102 := n3_; have GE102 := n4_; have NB101_102 := n5_; have NB102_101 := n6_; clear n0_ n1_ n2_ n3_ n4_ n5_ n6_; clear hb hbox hg; have hnb45 := NB101_102.out; have hnc45 := NB102_101.out; have hcz46_0 : w44.cell? ⟨gb101, 0, none⟩ = some (.int .i64 a0_0) := (blk_cell BK101.out 0).trans rfl; have hcz46_1 : w44.cell? ⟨gb101, 1, none⟩ = some (.int .i64 a0_1) := (blk_cell BK101.out 1).trans rfl; have hcz46_2 : w44.cell? ⟨gb101, 2, none⟩ = some (.slice A0_2 l0_2.length c0_2) := (blk_cell BK101.out 2).trans rfl; have hcz46_3 : w44.cell? ⟨gb101, 3, none⟩ = some (.slice A0_3 l0_3.length c0_3) := (blk_cell BK101.out 3).trans rfl; have hcz46_4 : w44.cell? ⟨gb101, 4, none⟩ = some (.slice A0_4 l0_4.length c0_4) := (blk_cell BK101.out 4).trans rfl; have hcz46_5 : w44.cell? ⟨gb101, 5, none⟩ = some (.int .i64 a0_5) := (blk_cell BK101.out 5).trans rfl; have hcz46_6 : w44.cell? ⟨gb101, 6, none⟩ = some (.int .i64 a0_6) := (blk_cell BK101.out 6).trans rfl; have hcz46_7 : w44.cell? ⟨gb101, 7, none⟩ = some (.int .i64 a0_7) := (blk_cell BK101.out 7).trans rfl; have hfz46_0 := blk_frozen BK101.out 0; have hfz46_1 := blk_frozen BK101.out 1; have hfz46_2 := blk_frozen BK101.out 2; have hfz46_3 := blk_frozen BK101.out 3; have hfz46_4 := blk_frozen BK101.out 4; have hfz46_5 := blk_frozen BK101.out 5; have hfz46_6 := blk_frozen BK101.out 6; have hfz46_7 := blk_frozen BK101.out 7; have hcz47_0 : w44.cell? ⟨gb102, 0, none⟩ = some (.int .i64 a1_0) := (blk_cell BK102.out 0).trans rfl; have hcz47_1 : w44.cell? ⟨gb102, 1, none⟩ = some (.int .i64 a1_1) := (blk_cell BK102.out 1).trans rfl; have hcz47_2 : w44.cell? ⟨gb102, 2, none⟩ = some (.slice A1_2 l1_2.length c1_2) := (blk_cell BK102.out 2).trans rfl; have hcz47_3 : w44.cell? ⟨gb102, 3, none⟩ = some (.slice A1_3 l1_3.length c1_3) := (blk_cell BK102.out 3).trans rfl; have hcz47_4 : w44.cell? ⟨gb102, 4, none⟩ = some (.slice A1_4 l1_4.length c1_4) := (blk_cell BK102.out 4).trans rfl; have hcz47_5 : w44.cell? ⟨gb102, 5, none⟩ = some (.int .i64 a1_5) := (blk_cell BK102.out 5).trans rfl; have hcz47_6 : w44.cell? ⟨gb102, 6, none⟩ = some (.int .i64 a1_6) := (blk_cell BK102.out 6).trans rfl; have hcz47_7 : w44.cell? ⟨gb102, 7, none⟩ = some (.int .i64 a1_7) := (blk_cell BK102.out 7).trans rfl; have hfz47_0 := blk_frozen BK102.out 0; have hfz47_1 := blk_frozen BK102.out 1; have hfz47_2 := blk_frozen BK102.out 2; have hfz47_3 := blk_frozen BK102.out 3; have hfz47_4 := blk_frozen BK102.out 4; have hfz47_5 := blk_frozen BK102.out 5; have hfz47_6 := blk_frozen BK102.out 6; have hfz47_7 := blk_frozen BK102.out 7))
   go_ret
   lr170_
 ·rw [if_neg c3] at H
  have c3b0 : (a0_0 == a1_0) = false := beq_eq_false_iff_ne.mpr c3
  have c3b1 : (a0_0 != a1_0) = true := bne_iff_ne.mpr c3
  obtain rfl := Option.some.inj H
  go_enter Tryd.func52, Tryd.ntmps52
  go_wp2_with (first | ((with_reducible refine gate_dst (N := 2) rfl ?_); refine box_event ?hg (N := 2) ?hd (cs := #[.int .i64 a0_0, .int .i64 a0_1, .slice A0_2 l0_2.length c0_2, .slice A0_3 l0_3.length c0_3, .slice A0_4 l0_4.length c0_4, .int .i64 a0_5, .int .i64 a0_6, .int .i64 a0_7]) (t := 46) ?hr ?_; (case hd => rfl); (case hg => rfl); (case hr => first | (go_simp; done) | (go_simp; rfl)); intro gb101 hg w48 hbox hb; have n0_ := Aside0.mk (below_step (by qc0_) hb); have n1_ := Aside0.mk (hbox); have n2_ := Aside0.mk ((pr172_)); have n3_ := Aside0.mk ((pr172_)); clear HB; have HB := n0_; have BK101 := n1_; have GW101 := n2_; have GE101 := n3_; clear n0_ n1_ n2_ n3_; clear hb hbox hg) | ((with_reducible refine gate_dst (N := 3) rfl ?_); refine box_event ?hg (N := 3) ?hd (cs := #[.int .i64 a1_0, .int .i64 a1_1, .slice A1_2 l1_2.length c1_2, .slice A1_3 l1_3.length c1_3, .slice A1_4 l1_4.length c1_4, .int .i64 a1_5, .int .i64 a1_6, .int .i64 a1_7]) (t := 44) ?hr ?_; (case hd => rfl); (case hg => rfl); (case hr => first | (go_simp; done) | (go_simp; rfl)); intro gb102 hg w49 hbox hb; have n0_ := Aside0.mk (blk_below (g := gb101) (o := (or170_)) (by qk_; exact BK101.out) hb); have n1_ := Aside0.mk (below_step (by qb1_ GE101) hb); have n2_ := Aside0.mk (hbox); have n3_ := Aside0.mk ((pr171_)); have n4_ := Aside0.mk ((pr171_)); have n5_ := Aside0.mk ((pr173_)); have n6_ := Aside0.mk ((pr174_)); clear BK101; clear HB; have BK101 := n0_; have HB := n1_; have BK102 := n2_; have GW102 := n3_; have GE102 := n4_; have NB101_102 := n5_; have NB102_101 := n6_; clear n0_ n1_ n2_ n3_ n4_ n5_ n6_; clear hb hbox hg; have hnb50 := NB101_102.out; have hnc50 := NB102_101.out; have hcz51_0 : w49.cell? ⟨gb101, 0, none⟩ = some (.int .i64 a0_0) := (blk_cell BK101.out 0).trans rfl; have hcz51_1 : w49.cell? ⟨gb101, 1, none⟩ = some (.int .i64 a0_1) := (blk_cell BK101.out 1).trans rfl; have hcz51_2 : w49.cell? ⟨gb101, 2, none⟩ = some (.slice A0_2 l0_2.length c0_2) := (blk_cell BK101.out 2).trans rfl; have hcz51_3 : w49.cell? ⟨gb101, 3, none⟩ = some (.slice A0_3 l0_3.length c0_3) := (blk_cell BK101.out 3).trans rfl; have hcz51_4 : w49.cell? ⟨gb101, 4, none⟩ = some (.slice A0_4 l0_4.length c0_4) := (blk_cell BK101.out 4).trans rfl; have hcz51_5 : w49.cell? ⟨gb101, 5, none⟩ = some (.int .i64 a0_5) := (blk_cell BK101.out 5).trans rfl; have hcz51_6 : w49.cell? ⟨gb101, 6, none⟩ = some (.int .i64 a0_6) := (blk_cell BK101.out 6).trans rfl; have hcz51_7 : w49.cell? ⟨gb101, 7, none⟩ = some (.int .i64 a0_7) := (blk_cell BK101.out 7).trans rfl; have hfz51_0 := blk_frozen BK101.out 0; have hfz51_1 := blk_frozen BK101.out 1; have hfz51_2 := blk_frozen BK101.out 2; have hfz51_3 := blk_frozen BK101.out 3; have hfz51_4 := blk_frozen BK101.out 4; have hfz51_5 := blk_frozen BK101.out 5; have hfz51_6 := blk_frozen BK101.out 6; have hfz51_7 := blk_frozen BK101.out 7; have hcz52_0 : w49.cell? ⟨gb102, 0, none⟩ = some (.int .i64 a1_0) := (blk_cell BK102.out 0).trans rfl; have hcz52_1 : w49.cell? ⟨gb102, 1, none⟩ = some (.int .i64 a1_1) := (blk_cell BK102.out 1).trans rfl; have hcz52_2 : w49.cell? ⟨gb102, 2, none⟩ = some (.slice A1_2 l1_2.length c1_2) := (blk_cell BK102.out 2).trans rfl; have hcz52_3 : w49.cell? ⟨gb102, 3, none⟩ = some (.slice A1_3 l1_3.length c1_3) := (blk_cell BK102.out 3).trans rfl; have hcz52_4 : w49.cell? ⟨gb102, 4, none⟩ = some (.slice A1_4 l1_4.length c1_4) := (blk_cell BK102.out 4).trans rfl; have hcz52_5 : w49.cell? ⟨gb102, 5, none⟩ = some (.int .i64 a1_5) := (blk_cell BK102.out 5).trans rfl; have hcz52_6 : w49.cell? ⟨gb102, 6, none⟩ = some (.int .i64 a1_6) := (blk_cell BK102.out 6).trans rfl; have hcz52_7 : w49.cell? ⟨gb102, 7, none⟩ = some (.int .i64 a1_7) := (blk_cell BK102.out 7).trans rfl; have hfz52_0 := blk_frozen BK102.out 0; have hfz52_1 := blk_frozen BK102.out 1; have hfz52_2 := blk_frozen BK102.out 2; have hfz52_3 := blk_frozen BK102.out 3; have hfz52_4 := blk_frozen BK102.out 4; have hfz52_5 := blk_frozen BK102.out 5; have hfz52_6 := blk_frozen BK102.out 6; have hfz52_7 := blk_frozen BK102.out 7))
  go_ret
  lr170_
end Go.Proofs.YtbcleckapamicaaDoor.QTl
