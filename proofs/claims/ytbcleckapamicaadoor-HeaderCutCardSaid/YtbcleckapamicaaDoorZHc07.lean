/- A part of the proof of the law HeaderCut: QHex5, QHex6, QHex7, QHex8, QHex9, QVax2, VaP, HeP, HrP, QHcx0, Opn, PrmHeaderCut, PureHeaderCut, Tab. -/
import Derived.Test.YtbcleckapamicaaDoorZHc03
import Derived.Test.YtbcleckapamicaaDoorZHc02
import Derived.Test.YtbcleckapamicaaDoorZHc06
import Derived.Test.YtbcleckapamicaaDoorZHc04
import Derived.Test.YtbcleckapamicaaDoorZHc05
import Derived.Test.YtbcleckapamicaaDoorZHc00
import Derived.Deep.Slices
import Derived.WideShapes
import Derived.ProofKit
import Derived.Test.YtbcleckapamicaaDoorRows
import Derived.LaidLaws
import Derived.Lib.LaidTab
import Derived.Stop.LaidErr
namespace Go.Proofs.YtbcleckapamicaaDoor.QHe
open Go.RowKit Go.Proofs.YtbcleckapamicaaDoorW.PrintWords Go.Proofs.YtbcleckapamicaaDoorW.PrintLast Go.Proofs.YtbcleckapamicaaDoorW.PrintMore
attribute [local go_sem] max2_int min2_int max_two min_two max_three min_three max_four min_four
set_option linter.unusedVariables false
set_option linter.unusedSimpArgs false
end Go.Proofs.YtbcleckapamicaaDoor.QHe
namespace Go.Proofs.YtbcleckapamicaaDoor.QHe
open Go.RowKit Go.Proofs.YtbcleckapamicaaDoorW.PrintWords Go.Proofs.YtbcleckapamicaaDoorW.PrintLast Go.Proofs.YtbcleckapamicaaDoorW.PrintMore
attribute [local go_sem] max2_int min2_int max_two min_two max_three min_three max_four min_four
set_option linter.unusedVariables false
set_option linter.unusedSimpArgs false
end Go.Proofs.YtbcleckapamicaaDoor.QHe
namespace Go.Proofs.YtbcleckapamicaaDoor.QHe
open Go.RowKit Go.Proofs.YtbcleckapamicaaDoorW.PrintWords Go.Proofs.YtbcleckapamicaaDoorW.PrintLast Go.Proofs.YtbcleckapamicaaDoorW.PrintMore
attribute [local go_sem] max2_int min2_int max_two min_two max_three min_three max_four min_four
set_option linter.unusedVariables false
set_option linter.unusedSimpArgs false
open Go.Proofs.YtbcleckapamicaaDoor.Gv (TB TB.below TB.alloc TB.drew TB.drewN)
set_option hygiene false
local macro "pl110_" : term => `((if (t193.length : Int) = 11 then (if 0 < (t193.length : Int) then (if (rd t193 0) = 69 then (if 9 < (t193.length : Int) then (if (rd t193 9) = 1 then (if 10 < (t193.length : Int) then (some ((rd t193 10) == 2)) else (none)) else (some false)) else (none)) else (some false)) else (none)) else (some false)))
local macro "pl111_" : term => `((by first | (with_reducible assumption) | assumption))
local macro "pl112_" : term => `((by (try simp only [List.map_toArray, List.map_cons, List.map_nil]); first | done | rfl | (simp only [List.length_drop, List.length_take]; rfl)))
local macro "ll110_" : tactic => `(tactic| (exact ⟨by first | rfl | (simp [errW_none, errW_some] <;> rfl) | (simp [*, errW_none, errW_some] <;> rfl), by qc0_⟩))
local macro "ll111_" : tactic => `(tactic| (exact ⟨by first | rfl | (simp; done) | (simp [*]; done), by repeat (first | exact Drawn0.refl _ | apply Drawn0.step)⟩))
set_option hygiene true
def shibbolethlaw05_awake.f (k : Nat)  : Option (Bool) := if 8 ≤ 281474976710656 then ((header_Write.f k 3 0 (List.replicate 8 0) ([] : List Int) ([] : List Int) 1 258 2 5).bind fun t193 => (pl110_)) else (none)
theorem shibbolethlaw05_awake.mono : ∀ k, LeO (shibbolethlaw05_awake.f k ) (shibbolethlaw05_awake.f (k + 1) ) := by
 intro  k
 unfold shibbolethlaw05_awake.f
 repeat' first
   | (with_reducible exact header_Write.mono _ _ _ _ _ _ _ _ _ _)
   | (with_reducible exact LeO.refl _)
   | (with_reducible exact LeO.none _)
   | (with_reducible refine LeO.ite ?_ ?_)
   | (with_reducible refine LeO.bind ?_ (fun _ => ?_))
   | exact header_Write.mono _ _ _ _ _ _ _ _ _ _
   | exact LeO.none _
   | refine LeO.ite ?_ ?_
   | refine LeO.bind ?_ (fun _ => ?_)
set_option maxHeartbeats 8000000 in
set_option maxRecDepth 100000 in
theorem shibbolethlaw05_awake.calls (k : Nat)  (r : Bool) (w : World) (ht : TB w) (h : shibbolethlaw05_awake.f k  = some r) :
  Calls Tryd.prog 38 #[] w fun e w' => e = .returned (.bool r) ∧ Below w.heap.size w w' := by
 have HT := Aside0.mk ht
 clear ht
 have hu46 := Tryd.underlying46
 have HB := Aside0.mk (Below.refl w.heap.size w)
 have H : (if 8 ≤ 281474976710656 then ((header_Write.f k 3 0 (List.replicate 8 0) ([] : List Int) ([] : List Int) 1 258 2 5).bind fun t193 => (pl110_)) else (none)) = some r := h
 clear h
 by_cases c1 : 8 ≤ 281474976710656
 ·rw [if_pos c1] at H
  have c1b0 := eq_true c1
  have c1b1 : decide (8 ≤ 281474976710656) = true := decide_eq_true c1
  clear c1
  obtain ⟨y190, hy190⟩ : ∃ y_ : List Int, y_ = (List.replicate 8 0) := ⟨_, rfl⟩
  replace H : ((header_Write.f k 3 0 y190 ([] : List Int) ([] : List Int) 1 258 2 5).bind fun t193 => (pl110_)) = some r := by first | (rw [hy190]; with_reducible exact H) | (have H2_ := (Option.bind_some _ _).symm.trans H; rw [hy190]; with_reducible exact H2_) | (have H2_ := (Option.bind_some _ _).symm.trans H; with_reducible exact H2_) | with_reducible exact H | (rw [hy190]; exact H) | exact H
  have Ny190 := Aside0.mk hy190
  clear hy190
  replace H := Option.bind_eq_some_iff.mp H
  obtain ⟨t193, A20, H⟩ := H
  replace H : (pl110_) = some r := H
  have A2 := Aside0.mk A20
  clear A20
  by_cases c3 : (t193.length : Int) = 11
  ·rw [if_pos c3] at H
   have c3b0 : ((t193.length : Int) == 11) = true := beq_iff_eq.mpr c3
   have c3b1 : ((t193.length : Int) != 11) = false := bne_eq_false_iff_eq.mpr c3
   clear c3
   by_cases c4 : 0 < (t193.length : Int)
   ·rw [if_pos c4] at H
    have c4b0 : decide (0 < (t193.length : Int)) = true := decide_eq_true c4
    have c4b1 : decide (0 < t193.length) = true := decide_eq_true (by omega)
    clear c4
    by_cases c5 : (rd t193 0) = 69
    ·rw [if_pos c5] at H
     have c5b0 : ((rd t193 0) == 69) = true := beq_iff_eq.mpr c5
     have c5b1 : ((rd t193 0) != 69) = false := bne_eq_false_iff_eq.mpr c5
     clear c5
     by_cases c6 : 9 < (t193.length : Int)
     ·rw [if_pos c6] at H
      have c6b0 : decide (9 < (t193.length : Int)) = true := decide_eq_true c6
      have c6b1 : decide (9 < t193.length) = true := decide_eq_true (by omega)
      clear c6
      by_cases c7 : (rd t193 9) = 1
      ·rw [if_pos c7] at H
       have c7b0 : ((rd t193 9) == 1) = true := beq_iff_eq.mpr c7
       have c7b1 : ((rd t193 9) != 1) = false := bne_eq_false_iff_eq.mpr c7
       clear c7
       by_cases c8 : 10 < (t193.length : Int)
       ·rw [if_pos c8] at H
        have c8b0 : decide (10 < (t193.length : Int)) = true := decide_eq_true c8
        have c8b1 : decide (10 < t193.length) = true := decide_eq_true (by omega)
        clear c8
        obtain rfl := Option.some.inj H
        go_enter Tryd.func38, Tryd.ntmps38
        go_wp2_with (first | ((with_reducible refine gate_dst (N := 2) rfl ?_); refine Kd.R_make (Kd.int .u8) _ 5 rfl (N := 2) rfl 22 _ _ rfl 8 rfl rfl Tryd.underlying22 (.int .u8 0) 1 info5 rfl (by decide) (by omega) 0 (ok := fun _ => True) (okp := fun _ => True) rfl (fun _ hk => hk) trivial (by omega) (by omega) (Below.refl _ _) (Nat.le_refl _) ?_; intro v191 w9 ho10 hb hg_ hnew_; clear hg_ hnew_; (first | rw [← Ny190.out] at ho10 | (simp only [Int.reduceToNat] at ho10; rw [← Ny190.out] at ho10)); have n0_ := Aside0.mk (Kd.R_lower ho10 (below_size (by qc0_))); have n1_ := Aside0.mk (below_step (by qc0_) hb); clear HB; have HO192 := n0_; have HB := n1_; clear n0_ n1_; clear hb ho10; obtain ⟨Ao11, co11, eo11⟩ := Kd.R_slice HO192.out; subst eo11) | ((with_reducible refine gate_callee (f := 35) rfl ?_); refine goesL_ (some 4) rfl rfl Tryd.func35 (by kernel_rfl) rfl #[.agg #[.int .i64 3, .int .i64 0, .slice Ao11 y190.length co11, .slice none 0 0, .slice none 0 0, .int .i64 1, .int .i64 258, .int .i64 2], .int .i64 5] rfl (pl112_) ?_; (refine (header_Write.calls k 3 0 (fun k_ => some k_ = (.slice Ao11 y190.length co11 : Value).ownBlock) _ _ y190 _ _ ([] : List Int) _ _ ([] : List Int) 1 258 2 5 t193 _ ?side1 ?side2 ?side3 ?side4 ?side5 ?sideT A2.out).mono ?_); (case sideT => repeat (first | exact HT.out | exact TB.below HT.out HB.out | exact TB.below HT.out HBW.out | (with_reducible refine TB.alloc ?_ _) | (with_reducible refine TB.drewN ?_ _) | (with_reducible refine TB.drew ?_))); (case side1 => exact Kd.R_V (Kd.R_tight rfl (HO192.out))); (case side2 => exact Kd.C_nil _ _); (case side3 => exact Nat.le_refl _); (case side4 => exact Kd.C_nil _ _); (case side5 => exact Nat.le_refl _); rintro e w12 ⟨v194, rfl, ho0, hb⟩; refine ⟨_, rfl, ?_⟩; have n0_ := Aside0.mk (Kd.R_elder' (by qR_; exact HO192.out) (Kd.R_base ho0) hb); have n1_ := Aside0.mk (Kd.R_lower (Kd.R_new' (Kd.R_mono (ok' := fun k_ => True) ho0 (fun _ hk_ => trivial)) (Kd.R_lt (by qR_; exact HO192.out))) (below_size (by qc0_))); have n2_ := Aside0.mk (below_step (by qc0_) hb); clear HO192; clear HB; have HO192 := n0_; have HO195 := n1_; have HB := n2_; clear n0_ n1_ n2_; (try clear hb); (try clear hb2); (try clear hk); (try clear hi); (try clear ho0); obtain ⟨Ao13, co13, eo13⟩ := Kd.R_slice HO195.out; subst eo13; have p196 : 0 ≤ (0 : Int) := (by omega); have q196 : 0 < (t193.length : Int) := of_decide_eq_true (pl111_); obtain ⟨ad196, e196, hx196_0⟩ := Kd.at_int (Kd.R_reads' HO195.out).2.2 0 p196 q196; cases e196; have qi196 : (0 < t193.length) = True := eq_true (by omega); (try rw [show ((0 : Int)).toNat = 0 from rfl] at hx196_0); (try rw [Addr.add_zero'] at hx196_0); replace p196 := eq_true p196; replace q196 := eq_true q196; have p197 : 0 ≤ (9 : Int) := (by omega); have q197 : 9 < (t193.length : Int) := of_decide_eq_true (pl111_); obtain ⟨ad197, e197, hx197_0⟩ := Kd.at_int (Kd.R_reads' HO195.out).2.2 9 p197 q197; obtain rfl : ad196 = ad197 := (by injection e197); (try simp only [show (9 : Int).toNat = 9 from rfl, Nat.reduceMul, Nat.reduceEqDiff, Go.Addr.add, ↓reduceIte] at hx197_0); have qi197 : (9 < t193.length) = True := eq_true (by omega); (try rw [show ((9 : Int)).toNat = 9 from rfl] at hx197_0); replace p197 := eq_true p197; replace q197 := eq_true q197; have p198 : 0 ≤ (10 : Int) := (by omega); have q198 : 10 < (t193.length : Int) := of_decide_eq_true (pl111_); obtain ⟨ad198, e198, hx198_0⟩ := Kd.at_int (Kd.R_reads' HO195.out).2.2 10 p198 q198; obtain rfl : ad196 = ad198 := (by injection e198); (try simp only [show (10 : Int).toNat = 10 from rfl, Nat.reduceMul, Nat.reduceEqDiff, Go.Addr.add, ↓reduceIte] at hx198_0); have qi198 : (10 < t193.length) = True := eq_true (by omega); (try rw [show ((10 : Int)).toNat = 10 from rfl] at hx198_0); replace p198 := eq_true p198; replace q198 := eq_true q198))
        go_ret
        ll110_
       ·rw [if_neg c8] at H
        exact absurd H (by simp)
      ·rw [if_neg c7] at H
       have c7b0 : ((rd t193 9) == 1) = false := beq_eq_false_iff_ne.mpr c7
       have c7b1 : ((rd t193 9) != 1) = true := bne_iff_ne.mpr c7
       obtain rfl := Option.some.inj H
       go_enter Tryd.func38, Tryd.ntmps38
       go_wp2_with (first | ((with_reducible refine gate_dst (N := 2) rfl ?_); refine Kd.R_make (Kd.int .u8) _ 5 rfl (N := 2) rfl 22 _ _ rfl 8 rfl rfl Tryd.underlying22 (.int .u8 0) 1 info5 rfl (by decide) (by omega) 0 (ok := fun _ => True) (okp := fun _ => True) rfl (fun _ hk => hk) trivial (by omega) (by omega) (Below.refl _ _) (Nat.le_refl _) ?_; intro v191 w14 ho15 hb hg_ hnew_; clear hg_ hnew_; (first | rw [← Ny190.out] at ho15 | (simp only [Int.reduceToNat] at ho15; rw [← Ny190.out] at ho15)); have n0_ := Aside0.mk (Kd.R_lower ho15 (below_size (by qc0_))); have n1_ := Aside0.mk (below_step (by qc0_) hb); clear HB; have HO192 := n0_; have HB := n1_; clear n0_ n1_; clear hb ho15; obtain ⟨Ao16, co16, eo16⟩ := Kd.R_slice HO192.out; subst eo16) | ((with_reducible refine gate_callee (f := 35) rfl ?_); refine goesL_ (some 4) rfl rfl Tryd.func35 (by kernel_rfl) rfl #[.agg #[.int .i64 3, .int .i64 0, .slice Ao16 y190.length co16, .slice none 0 0, .slice none 0 0, .int .i64 1, .int .i64 258, .int .i64 2], .int .i64 5] rfl (pl112_) ?_; (refine (header_Write.calls k 3 0 (fun k_ => some k_ = (.slice Ao16 y190.length co16 : Value).ownBlock) _ _ y190 _ _ ([] : List Int) _ _ ([] : List Int) 1 258 2 5 t193 _ ?side1 ?side2 ?side3 ?side4 ?side5 ?sideT A2.out).mono ?_); (case sideT => repeat (first | exact HT.out | exact TB.below HT.out HB.out | exact TB.below HT.out HBW.out | (with_reducible refine TB.alloc ?_ _) | (with_reducible refine TB.drewN ?_ _) | (with_reducible refine TB.drew ?_))); (case side1 => exact Kd.R_V (Kd.R_tight rfl (HO192.out))); (case side2 => exact Kd.C_nil _ _); (case side3 => exact Nat.le_refl _); (case side4 => exact Kd.C_nil _ _); (case side5 => exact Nat.le_refl _); rintro e w17 ⟨v194, rfl, ho0, hb⟩; refine ⟨_, rfl, ?_⟩; have n0_ := Aside0.mk (Kd.R_elder' (by qR_; exact HO192.out) (Kd.R_base ho0) hb); have n1_ := Aside0.mk (Kd.R_lower (Kd.R_new' (Kd.R_mono (ok' := fun k_ => True) ho0 (fun _ hk_ => trivial)) (Kd.R_lt (by qR_; exact HO192.out))) (below_size (by qc0_))); have n2_ := Aside0.mk (below_step (by qc0_) hb); clear HO192; clear HB; have HO192 := n0_; have HO195 := n1_; have HB := n2_; clear n0_ n1_ n2_; (try clear hb); (try clear hb2); (try clear hk); (try clear hi); (try clear ho0); obtain ⟨Ao18, co18, eo18⟩ := Kd.R_slice HO195.out; subst eo18; have p196 : 0 ≤ (0 : Int) := (by omega); have q196 : 0 < (t193.length : Int) := of_decide_eq_true (pl111_); obtain ⟨ad196, e196, hx196_0⟩ := Kd.at_int (Kd.R_reads' HO195.out).2.2 0 p196 q196; cases e196; have qi196 : (0 < t193.length) = True := eq_true (by omega); (try rw [show ((0 : Int)).toNat = 0 from rfl] at hx196_0); (try rw [Addr.add_zero'] at hx196_0); replace p196 := eq_true p196; replace q196 := eq_true q196; have p197 : 0 ≤ (9 : Int) := (by omega); have q197 : 9 < (t193.length : Int) := of_decide_eq_true (pl111_); obtain ⟨ad197, e197, hx197_0⟩ := Kd.at_int (Kd.R_reads' HO195.out).2.2 9 p197 q197; obtain rfl : ad196 = ad197 := (by injection e197); (try simp only [show (9 : Int).toNat = 9 from rfl, Nat.reduceMul, Nat.reduceEqDiff, Go.Addr.add, ↓reduceIte] at hx197_0); have qi197 : (9 < t193.length) = True := eq_true (by omega); (try rw [show ((9 : Int)).toNat = 9 from rfl] at hx197_0); replace p197 := eq_true p197; replace q197 := eq_true q197))
       go_ret
       ll110_
     ·rw [if_neg c6] at H
      exact absurd H (by simp)
    ·rw [if_neg c5] at H
     have c5b0 : ((rd t193 0) == 69) = false := beq_eq_false_iff_ne.mpr c5
     have c5b1 : ((rd t193 0) != 69) = true := bne_iff_ne.mpr c5
     obtain rfl := Option.some.inj H
     go_enter Tryd.func38, Tryd.ntmps38
     go_wp2_with (first | ((with_reducible refine gate_dst (N := 2) rfl ?_); refine Kd.R_make (Kd.int .u8) _ 5 rfl (N := 2) rfl 22 _ _ rfl 8 rfl rfl Tryd.underlying22 (.int .u8 0) 1 info5 rfl (by decide) (by omega) 0 (ok := fun _ => True) (okp := fun _ => True) rfl (fun _ hk => hk) trivial (by omega) (by omega) (Below.refl _ _) (Nat.le_refl _) ?_; intro v191 w19 ho20 hb hg_ hnew_; clear hg_ hnew_; (first | rw [← Ny190.out] at ho20 | (simp only [Int.reduceToNat] at ho20; rw [← Ny190.out] at ho20)); have n0_ := Aside0.mk (Kd.R_lower ho20 (below_size (by qc0_))); have n1_ := Aside0.mk (below_step (by qc0_) hb); clear HB; have HO192 := n0_; have HB := n1_; clear n0_ n1_; clear hb ho20; obtain ⟨Ao21, co21, eo21⟩ := Kd.R_slice HO192.out; subst eo21) | ((with_reducible refine gate_callee (f := 35) rfl ?_); refine goesL_ (some 4) rfl rfl Tryd.func35 (by kernel_rfl) rfl #[.agg #[.int .i64 3, .int .i64 0, .slice Ao21 y190.length co21, .slice none 0 0, .slice none 0 0, .int .i64 1, .int .i64 258, .int .i64 2], .int .i64 5] rfl (pl112_) ?_; (refine (header_Write.calls k 3 0 (fun k_ => some k_ = (.slice Ao21 y190.length co21 : Value).ownBlock) _ _ y190 _ _ ([] : List Int) _ _ ([] : List Int) 1 258 2 5 t193 _ ?side1 ?side2 ?side3 ?side4 ?side5 ?sideT A2.out).mono ?_); (case sideT => repeat (first | exact HT.out | exact TB.below HT.out HB.out | exact TB.below HT.out HBW.out | (with_reducible refine TB.alloc ?_ _) | (with_reducible refine TB.drewN ?_ _) | (with_reducible refine TB.drew ?_))); (case side1 => exact Kd.R_V (Kd.R_tight rfl (HO192.out))); (case side2 => exact Kd.C_nil _ _); (case side3 => exact Nat.le_refl _); (case side4 => exact Kd.C_nil _ _); (case side5 => exact Nat.le_refl _); rintro e w22 ⟨v194, rfl, ho0, hb⟩; refine ⟨_, rfl, ?_⟩; have n0_ := Aside0.mk (Kd.R_elder' (by qR_; exact HO192.out) (Kd.R_base ho0) hb); have n1_ := Aside0.mk (Kd.R_lower (Kd.R_new' (Kd.R_mono (ok' := fun k_ => True) ho0 (fun _ hk_ => trivial)) (Kd.R_lt (by qR_; exact HO192.out))) (below_size (by qc0_))); have n2_ := Aside0.mk (below_step (by qc0_) hb); clear HO192; clear HB; have HO192 := n0_; have HO195 := n1_; have HB := n2_; clear n0_ n1_ n2_; (try clear hb); (try clear hb2); (try clear hk); (try clear hi); (try clear ho0); obtain ⟨Ao23, co23, eo23⟩ := Kd.R_slice HO195.out; subst eo23; have p196 : 0 ≤ (0 : Int) := (by omega); have q196 : 0 < (t193.length : Int) := of_decide_eq_true (pl111_); obtain ⟨ad196, e196, hx196_0⟩ := Kd.at_int (Kd.R_reads' HO195.out).2.2 0 p196 q196; cases e196; have qi196 : (0 < t193.length) = True := eq_true (by omega); (try rw [show ((0 : Int)).toNat = 0 from rfl] at hx196_0); (try rw [Addr.add_zero'] at hx196_0); replace p196 := eq_true p196; replace q196 := eq_true q196))
     go_ret
     ll110_
   ·rw [if_neg c4] at H
    exact absurd H (by simp)
  ·rw [if_neg c3] at H
   have c3b0 : ((t193.length : Int) == 11) = false := beq_eq_false_iff_ne.mpr c3
   have c3b1 : ((t193.length : Int) != 11) = true := bne_iff_ne.mpr c3
   obtain rfl := Option.some.inj H
   go_enter Tryd.func38, Tryd.ntmps38
   go_wp2_with (first | ((with_reducible refine gate_dst (N := 2) rfl ?_); refine Kd.R_make (Kd.int .u8) _ 5 rfl (N := 2) rfl 22 _ _ rfl 8 rfl rfl Tryd.underlying22 (.int .u8 0) 1 info5 rfl (by decide) (by omega) 0 (ok := fun _ => True) (okp := fun _ => True) rfl (fun _ hk => hk) trivial (by omega) (by omega) (Below.refl _ _) (Nat.le_refl _) ?_; intro v191 w24 ho25 hb hg_ hnew_; clear hg_ hnew_; (first | rw [← Ny190.out] at ho25 | (simp only [Int.reduceToNat] at ho25; rw [← Ny190.out] at ho25)); have n0_ := Aside0.mk (Kd.R_lower ho25 (below_size (by qc0_))); have n1_ := Aside0.mk (below_step (by qc0_) hb); clear HB; have HO192 := n0_; have HB := n1_; clear n0_ n1_; clear hb ho25; obtain ⟨Ao26, co26, eo26⟩ := Kd.R_slice HO192.out; subst eo26) | ((with_reducible refine gate_callee (f := 35) rfl ?_); refine goesL_ (some 4) rfl rfl Tryd.func35 (by kernel_rfl) rfl #[.agg #[.int .i64 3, .int .i64 0, .slice Ao26 y190.length co26, .slice none 0 0, .slice none 0 0, .int .i64 1, .int .i64 258, .int .i64 2], .int .i64 5] rfl (pl112_) ?_; (refine (header_Write.calls k 3 0 (fun k_ => some k_ = (.slice Ao26 y190.length co26 : Value).ownBlock) _ _ y190 _ _ ([] : List Int) _ _ ([] : List Int) 1 258 2 5 t193 _ ?side1 ?side2 ?side3 ?side4 ?side5 ?sideT A2.out).mono ?_); (case sideT => repeat (first | exact HT.out | exact TB.below HT.out HB.out | exact TB.below HT.out HBW.out | (with_reducible refine TB.alloc ?_ _) | (with_reducible refine TB.drewN ?_ _) | (with_reducible refine TB.drew ?_))); (case side1 => exact Kd.R_V (Kd.R_tight rfl (HO192.out))); (case side2 => exact Kd.C_nil _ _); (case side3 => exact Nat.le_refl _); (case side4 => exact Kd.C_nil _ _); (case side5 => exact Nat.le_refl _); rintro e w27 ⟨v194, rfl, ho0, hb⟩; refine ⟨_, rfl, ?_⟩; have n0_ := Aside0.mk (Kd.R_elder' (by qR_; exact HO192.out) (Kd.R_base ho0) hb); have n1_ := Aside0.mk (Kd.R_lower (Kd.R_new' (Kd.R_mono (ok' := fun k_ => True) ho0 (fun _ hk_ => trivial)) (Kd.R_lt (by qR_; exact HO192.out))) (below_size (by qc0_))); have n2_ := Aside0.mk (below_step (by qc0_) hb); clear HO192; clear HB; have HO192 := n0_; have HO195 := n1_; have HB := n2_; clear n0_ n1_ n2_; (try clear hb); (try clear hb2); (try clear hk); (try clear hi); (try clear ho0); obtain ⟨Ao28, co28, eo28⟩ := Kd.R_slice HO195.out; subst eo28))
   go_ret
   ll110_
 ·rw [if_neg c1] at H
  exact absurd H (by simp)
def shibbolethlaw05_same.l0 : Nat → List Int → List Int → Int → Option (Bool)
 | 0, _, _, _ => none
 | k + 1, x0, x1, x5 => if x5 < (x0.length : Int) then (if 0 ≤ x5 then (if x5 < (x1.length : Int) then (if (rd x0 x5) = (rd x1 x5) then (shibbolethlaw05_same.l0 k x0 x1 (wrap64 (x5 + 1))) else (some false)) else (none)) else (none)) else (some true)
def shibbolethlaw05_same.f (k : Nat) (l0 : List Int) (l1 : List Int) : Option (Bool) := if (l0.length : Int) = (l1.length : Int) then (shibbolethlaw05_same.l0 k l0 l1 0) else (some false)
theorem shibbolethlaw05_same.mono_l : ∀ k, (∀ y0 y1 y2, LeO (shibbolethlaw05_same.l0 k y0 y1 y2) (shibbolethlaw05_same.l0 (k + 1) y0 y1 y2))
 | 0 => fun _ _ _ r h => by simp [shibbolethlaw05_same.l0] at h
 | k + 1 => by
  have ih0 := shibbolethlaw05_same.mono_l k
  ·intro y0 y1 y2
   unfold shibbolethlaw05_same.l0
   repeat' first
   | (with_reducible exact ih0 _ _ _)
   | (with_reducible exact LeO.refl _)
   | (with_reducible exact LeO.none _)
   | (with_reducible refine LeO.ite ?_ ?_)
   | (with_reducible refine LeO.bind ?_ (fun _ => ?_))
   | exact ih0 _ _ _
   | exact LeO.none _
   | refine LeO.ite ?_ ?_
   | refine LeO.bind ?_ (fun _ => ?_)
theorem shibbolethlaw05_same.mono : ∀ a0 a1 k, LeO (shibbolethlaw05_same.f k a0 a1) (shibbolethlaw05_same.f (k + 1) a0 a1) := by
 intro a0 a1 k
 have ih0 := shibbolethlaw05_same.mono_l k
 unfold shibbolethlaw05_same.f
 repeat' first
   | (with_reducible exact ih0 _ _ _)
   | (with_reducible exact LeO.refl _)
   | (with_reducible exact LeO.none _)
   | (with_reducible refine LeO.ite ?_ ?_)
   | (with_reducible refine LeO.bind ?_ (fun _ => ?_))
   | exact ih0 _ _ _
   | exact LeO.none _
   | refine LeO.ite ?_ ?_
   | refine LeO.bind ?_ (fun _ => ?_)
set_option maxHeartbeats 8000000 in
set_option maxRecDepth 100000 in
theorem shibbolethlaw05_same.calls (k : Nat) (A0 : Option Addr) (c0 : Nat) (l0 : List Int) (A1 : Option Addr) (c1 : Nat) (l1 : List Int) (r : Bool) (w : World) (hr0 : Kd.C (Kd.int .u8) w A0 l0.length l0) (hc0 : l0.length ≤ c0) (hr1 : Kd.C (Kd.int .u8) w A1 l1.length l1) (hc1 : l1.length ≤ c1) (h : shibbolethlaw05_same.f k l0 l1 = some r) :
  Calls Tryd.prog 39 #[.slice A0 l0.length c0, .slice A1 l1.length c1] w fun e w' => e = .returned (.bool r) ∧ Drawn0 w w' := by
 have HR0 := Aside0.mk hr0
 have HC0 := Aside0.mk hc0
 clear hr0 hc0
 have HR1 := Aside0.mk hr1
 have HC1 := Aside0.mk hc1
 clear hr1 hc1
 have H : (if (l0.length : Int) = (l1.length : Int) then (shibbolethlaw05_same.l0 k l0 l1 0) else (some false)) = some r := h
 clear h
 by_cases c3 : (l0.length : Int) = (l1.length : Int)
 ·rw [if_pos c3] at H
  have c3b0 : ((l0.length : Int) == (l1.length : Int)) = true := beq_iff_eq.mpr c3
  have c3b1 : ((l0.length : Int) != (l1.length : Int)) = false := bne_eq_false_iff_eq.mpr c3
  have c3b2 : (l0.length == l1.length) = true := by first | simpa using c3 | (simp at c3 ⊢; omega)
  clear c3
  have H' := Aside0.mk H
  clear H
  go_enter Tryd.func39, Tryd.ntmps39
  go_wp2
  repeat (go_quiet (fail); try go_wp2)
  go_loopg [5] k (fun kq v5 w' => ∃ (x5_1 : Int), v5 = .int .i64 x5_1 ∧ Aside0 (shibbolethlaw05_same.l0 kq l0 l1 x5_1 = some r) ∧ Aside0 (kq ≤ k) ∧ Drawn0 w w')
  case atStart => exact ⟨(0), (by first | rfl | (simp; done) | (simp [*]; done)), H', ⟨Nat.le_refl _⟩, by repeat (first | exact Drawn0.refl _ | apply Drawn0.step)⟩
  case round =>
   clear H'
   try clear c1
   try clear p2
   try clear c3
   try clear c3b0
   try clear c3b1
   try clear c3b2
   obtain ⟨x5_1, rfl, HA, HK1, ⟨m1, rfl⟩⟩ := hrel
   cases gk with
   | zero => exact absurd HA.out (by simp [shibbolethlaw05_same.l0])
   | succ k1 =>
    have H := HA.out
    clear HA
    simp only [shibbolethlaw05_same.l0] at H
    by_cases c4 : x5_1 < (l0.length : Int)
    ·rw [if_pos c4] at H
     have c4b0 : decide (x5_1 < (l0.length : Int)) = true := decide_eq_true c4
     clear c4
     by_cases c5 : 0 ≤ x5_1
     ·rw [if_pos c5] at H
      have c5b0 : decide (0 ≤ x5_1) = true := decide_eq_true c5
      clear c5
      by_cases c6 : x5_1 < (l1.length : Int)
      ·rw [if_pos c6] at H
       have c6b0 : decide (x5_1 < (l1.length : Int)) = true := decide_eq_true c6
       clear c6
       by_cases c7 : (rd l0 x5_1) = (rd l1 x5_1)
       ·rw [if_pos c7] at H
        have c7b0 : ((rd l0 x5_1) == (rd l1 x5_1)) = true := beq_iff_eq.mpr c7
        have c7b1 : ((rd l0 x5_1) != (rd l1 x5_1)) = false := bne_eq_false_iff_eq.mpr c7
        clear c7
        have H' := Aside0.mk H
        clear H
        have p199 : 0 ≤ (x5_1 : Int) := of_decide_eq_true (pl111_)
        have q199 : x5_1 < (l0.length : Int) := of_decide_eq_true (pl111_)
        obtain ⟨ad199, e199, hx199_0⟩ := Kd.at_int HR0.out x5_1 p199 q199
        (try simp only [Int.reduceToNat] at hx199_0)
        cases e199
        replace p199 := eq_true p199
        replace q199 := eq_true q199
        have p200 : 0 ≤ (x5_1 : Int) := of_decide_eq_true (pl111_)
        have q200 : x5_1 < (l1.length : Int) := of_decide_eq_true (pl111_)
        obtain ⟨ad200, e200, hx200_0⟩ := Kd.at_int HR1.out x5_1 p200 q200
        (try simp only [Int.reduceToNat] at hx200_0)
        cases e200
        replace p200 := eq_true p200
        replace q200 := eq_true q200
        go_wp2
        repeat (go_quiet (fail); try go_wp2)
        go_roundg k1
        case measure => have := HK1.out; omega
        case rel => exact ⟨(wrap64 (x5_1 + 1)), (by first | rfl | (simp; done) | (simp [*]; done)), H', ⟨by have := HK1.out; omega⟩, by repeat (first | exact Drawn0.refl _ | apply Drawn0.step)⟩
       ·rw [if_neg c7] at H
        have c7b0 : ((rd l0 x5_1) == (rd l1 x5_1)) = false := beq_eq_false_iff_ne.mpr c7
        have c7b1 : ((rd l0 x5_1) != (rd l1 x5_1)) = true := bne_iff_ne.mpr c7
        obtain rfl := Option.some.inj H
        have p199 : 0 ≤ (x5_1 : Int) := of_decide_eq_true (pl111_)
        have q199 : x5_1 < (l0.length : Int) := of_decide_eq_true (pl111_)
        obtain ⟨ad199, e199, hx199_0⟩ := Kd.at_int HR0.out x5_1 p199 q199
        (try simp only [Int.reduceToNat] at hx199_0)
        cases e199
        replace p199 := eq_true p199
        replace q199 := eq_true q199
        have p200 : 0 ≤ (x5_1 : Int) := of_decide_eq_true (pl111_)
        have q200 : x5_1 < (l1.length : Int) := of_decide_eq_true (pl111_)
        obtain ⟨ad200, e200, hx200_0⟩ := Kd.at_int HR1.out x5_1 p200 q200
        (try simp only [Int.reduceToNat] at hx200_0)
        cases e200
        replace p200 := eq_true p200
        replace q200 := eq_true q200
        go_wp2
        repeat (go_quiet (fail); try go_wp2)
        go_ret
        ll111_
      ·rw [if_neg c6] at H
       exact absurd H (by simp)
     ·rw [if_neg c5] at H
      exact absurd H (by simp)
    ·rw [if_neg c4] at H
     have c4b0 : decide (x5_1 < (l0.length : Int)) = false := decide_eq_false c4
     clear c4
     obtain rfl := Option.some.inj H
     go_wp2
     repeat (go_quiet (fail); try go_wp2)
     go_ret
     ll111_
 ·rw [if_neg c3] at H
  have c3b0 : ((l0.length : Int) == (l1.length : Int)) = false := beq_eq_false_iff_ne.mpr c3
  have c3b1 : ((l0.length : Int) != (l1.length : Int)) = true := bne_iff_ne.mpr c3
  have c3b2 : (l0.length == l1.length) = false := by first | simpa using c3 | (simp at c3 ⊢; omega)
  obtain rfl := Option.some.inj H
  go_enter Tryd.func39, Tryd.ntmps39
  go_wp2
  repeat (go_quiet (fail); try go_wp2)
  go_ret
  ll111_
end Go.Proofs.YtbcleckapamicaaDoor.QHe
namespace Go.Proofs.YtbcleckapamicaaDoor.QHe
open Go.RowKit Go.Proofs.YtbcleckapamicaaDoorW.PrintWords Go.Proofs.YtbcleckapamicaaDoorW.PrintLast Go.Proofs.YtbcleckapamicaaDoorW.PrintMore
attribute [local go_sem] max2_int min2_int max_two min_two max_three min_three max_four min_four
set_option linter.unusedVariables false
set_option linter.unusedSimpArgs false
end Go.Proofs.YtbcleckapamicaaDoor.QHe
namespace Go.Proofs.YtbcleckapamicaaDoor.QHe
open Go.RowKit Go.Proofs.YtbcleckapamicaaDoorW.PrintWords Go.Proofs.YtbcleckapamicaaDoorW.PrintLast Go.Proofs.YtbcleckapamicaaDoorW.PrintMore
attribute [local go_sem] max2_int min2_int max_two min_two max_three min_three max_four min_four
set_option linter.unusedVariables false
set_option linter.unusedSimpArgs false
end Go.Proofs.YtbcleckapamicaaDoor.QHe
namespace Go.Proofs.YtbcleckapamicaaDoor.QVa
open Go.RowKit Go.Proofs.YtbcleckapamicaaDoorW.PrintWords Go.Proofs.YtbcleckapamicaaDoorW.PrintLast Go.Proofs.YtbcleckapamicaaDoorW.PrintMore
attribute [local go_sem] max2_int min2_int max_two min_two max_three min_three max_four min_four
set_option linter.unusedVariables false
set_option linter.unusedSimpArgs false
end Go.Proofs.YtbcleckapamicaaDoor.QVa
namespace Go.Proofs.YtbcleckapamicaaDoor.VaP
open Go.RowKit Go.Proofs.YtbcleckapamicaaDoorW.PrintWords Go.Proofs.YtbcleckapamicaaDoorW.PrintLast Go.Proofs.YtbcleckapamicaaDoorW.PrintMore Go.Proofs.YtbcleckapamicaaDoor.QVa Go.Proofs.YtbcleckapamicaaDoor.Vn
open Go.Proofs.YtbcleckapamicaaDoor.Gv (bits_TrailingZeros.f slices_Clone_byte_byte.f varint_Size.f varint_Read.f)
set_option linter.unusedVariables false
set_option linter.unusedSimpArgs false
theorem same_l (l : List Int) (hl : l.length ≤ 9223372036854775806) : ∀ (d i k : Nat), i + d = l.length → d < k → shibbolethlaw01_same.l0 k l l (i : Int) = some true := by
  intro d
  induction d with
  | zero =>
    intro i k hi hk
    obtain ⟨k, rfl⟩ : ∃ m, k = m + 1 := ⟨k - 1, by omega⟩
    simp only [shibbolethlaw01_same.l0]
    rw [if_neg (by omega)]
  | succ d ih =>
    intro i k hi hk
    obtain ⟨k, rfl⟩ : ∃ m, k = m + 1 := ⟨k - 1, by omega⟩
    simp only [shibbolethlaw01_same.l0]
    rw [if_pos (by omega), if_pos (by omega), if_pos (by omega), if_pos trivial, show wrap64 ((i : Int) + 1) = ((i + 1 : Nat) : Int) from by unfold wrap64; omega]
    exact ih (i + 1) k (by omega) (by omega)
theorem same_f (l : List Int) (hl : l.length ≤ 9223372036854775806) (k : Nat) (hk : l.length < k) : shibbolethlaw01_same.f k l l = some true := by
  unfold shibbolethlaw01_same.f
  rw [if_pos rfl]
  exact same_l l hl l.length 0 k (by omega) hk
theorem or_mark (a : Int) (i m : Nat) (h0 : 0 ≤ a) (ha : a < 2 ^ i) (hm : m * 2 ^ i < 18446744073709551616) (hi : (2 : Int) ^ i ≤ 18446744073709551616) : Go.bits .or .u64 a ((m * 2 ^ i : Nat) : Int) = a + ((m * 2 ^ i : Nat) : Int) := by
  rw [u64_or a _ h0 (by omega) (by omega) (by omega), Int.toNat_natCast]
  have hc : ((a.toNat : Nat) : Int) < ((2 ^ i : Nat) : Int) := by rw [Int.toNat_of_nonneg h0]; simpa using ha
  have h := Nat.shiftLeft_add_eq_or_of_lt (i := i) (b := a.toNat) (Int.ofNat_lt.1 hc) m
  rw [Nat.shiftLeft_eq] at h
  rw [Nat.or_comm, ← h]
  omega
theorem shr_0 (x : Int) : shr .u64 x 0 = x := by simp [shr]
theorem shr_8 (x : Int) : shr .u64 x 8 = x / 256 := by simp [shr, IntKind.bits]
theorem shr_16 (x : Int) : shr .u64 x 16 = x / 65536 := by simp [shr, IntKind.bits]
theorem shr_24 (x : Int) : shr .u64 x 24 = x / 16777216 := by simp [shr, IntKind.bits]
theorem shr_32 (x : Int) : shr .u64 x 32 = x / 4294967296 := by simp [shr, IntKind.bits]
theorem shr_40 (x : Int) : shr .u64 x 40 = x / 1099511627776 := by simp [shr, IntKind.bits]
theorem shr_48 (x : Int) : shr .u64 x 48 = x / 281474976710656 := by simp [shr, IntKind.bits]
theorem shr_56 (x : Int) : shr .u64 x 56 = x / 72057594037927936 := by simp [shr, IntKind.bits]
theorem append_step (l : List Int) (x : Int) (j k : Nat) (hj : j ≤ 7) (hl : l.length < 140737488355328) : varint_Append.l0 (k + 1) l x (j : Int) = varint_Append.l0 k (l ++ [shr .u64 x ((8 * j : Nat) : Int) % 256]) x ((j : Int) - 1) := by
  simp only [varint_Append.l0]
  have e1 : wrap64 (8 * (j : Int)) = ((8 * j : Nat) : Int) := by unfold wrap64; omega
  have e2 : wrap64 ((j : Int) - 1) = (j : Int) - 1 := by unfold wrap64; omega
  rw [e1, e2, if_pos (by omega), if_pos (by omega), if_pos hl]
theorem append_end (l : List Int) (x : Int) (k : Nat) : varint_Append.l0 (k + 1) l x (-1) = some l := by
  simp only [varint_Append.l0]
  rw [if_neg (by omega)]
theorem append_f (l : List Int) (n : Int) (hl : l.length ≤ 1000000) (k : Nat) (hk : 9 < k) : varint_Append.f k l n = some (l ++ vbytes n) := by
  obtain ⟨k, rfl⟩ : ∃ m, k = m + 9 := ⟨k - 9, by omega⟩
  unfold varint_Append.f slices_Clone_byte_byte.f varint_Size.f
  rw [if_pos (by omega)]
  simp only [Option.bind_some]
  rcases vsize_cases n with ⟨hn, h, e⟩ | ⟨hn, h, e⟩ | ⟨hn, h, e⟩ | ⟨hn, h, e⟩ | ⟨hn, h, e⟩ <;> rw [h, e]
  · simp
  · have w1 : IntKind.u64.wrap n = n := by simp [IntKind.wrap, IntKind.bits, IntKind.signed]; omega
    have w2 : shl .u64 (IntKind.u64.wrap 0) (wrap64 ((wrap64 (8 * 1)) - 2)) = ((0 * 2 ^ 6 : Nat) : Int) := by decide +kernel
    have w3 : bits_TrailingZeros.f (IntKind.u64.wrap 1) = some 0 := by decide +kernel
    have w4 : wrap64 (1 - 1) = ((0 : Nat) : Int) := by decide +kernel
    rw [if_neg (by decide), w3]
    simp only [Option.bind_some]
    rw [if_pos (by decide +kernel), w1, w2, w4, or_mark n 6 0 hn.1 (by omega) (by omega) (by decide), show (k + 9) = (k + 7) + 1 + 1 from rfl, append_step _ _ 0 _ (by omega) (by omega), show (((0 : Nat) : Int) - 1) = -1 from rfl, append_end]
    congr 2
    simp only [show ((8 * 0 : Nat) : Int) = 0 from rfl, shr_0]
    congr 1; omega
  · have w1 : IntKind.u64.wrap n = n := by simp [IntKind.wrap, IntKind.bits, IntKind.signed]; omega
    have w2 : shl .u64 (IntKind.u64.wrap 1) (wrap64 ((wrap64 (8 * 2)) - 2)) = ((1 * 2 ^ 14 : Nat) : Int) := by decide +kernel
    have w3 : bits_TrailingZeros.f (IntKind.u64.wrap 2) = some 1 := by decide +kernel
    have w4 : wrap64 (2 - 1) = ((1 : Nat) : Int) := by decide +kernel
    rw [if_neg (by decide), w3]
    simp only [Option.bind_some]
    rw [if_pos (by decide +kernel), w1, w2, w4, or_mark n 14 1 (by omega) (by omega) (by omega) (by decide), show (k + 9) = (k + 6) + 1 + 1 + 1 from rfl, append_step _ _ 1 _ (by omega) (by omega), show (((1 : Nat) : Int) - 1) = ((0 : Nat) : Int) from rfl,
      append_step _ _ 0 _ (by omega) (by simp; omega), show (((0 : Nat) : Int) - 1) = -1 from rfl, append_end]
    simp only [show ((8 * 0 : Nat) : Int) = 0 from rfl, show ((8 * 1 : Nat) : Int) = 8 from rfl, shr_0, shr_8, List.append_assoc, List.cons_append, List.nil_append]
    congr 2
    simp only [List.cons.injEq, and_true]
    omega
  · have w1 : IntKind.u64.wrap n = n := by simp [IntKind.wrap, IntKind.bits, IntKind.signed]; omega
    have w2 : shl .u64 (IntKind.u64.wrap 2) (wrap64 ((wrap64 (8 * 4)) - 2)) = ((2 * 2 ^ 30 : Nat) : Int) := by decide +kernel
    have w3 : bits_TrailingZeros.f (IntKind.u64.wrap 4) = some 2 := by decide +kernel
    have w4 : wrap64 (4 - 1) = ((3 : Nat) : Int) := by decide +kernel
    rw [if_neg (by decide), w3]
    simp only [Option.bind_some]
    rw [if_pos (by decide +kernel), w1, w2, w4, or_mark n 30 2 (by omega) (by omega) (by omega) (by decide), show (k + 9) = (k + 4) + 1 + 1 + 1 + 1 + 1 from rfl, append_step _ _ 3 _ (by omega) (by omega), show (((3 : Nat) : Int) - 1) = ((2 : Nat) : Int) from rfl,
      append_step _ _ 2 _ (by omega) (by simp; omega), show (((2 : Nat) : Int) - 1) = ((1 : Nat) : Int) from rfl, append_step _ _ 1 _ (by omega) (by simp; omega), show (((1 : Nat) : Int) - 1) = ((0 : Nat) : Int) from rfl,
      append_step _ _ 0 _ (by omega) (by simp; omega), show (((0 : Nat) : Int) - 1) = -1 from rfl, append_end]
    simp only [show ((8 * 0 : Nat) : Int) = 0 from rfl, show ((8 * 1 : Nat) : Int) = 8 from rfl, show ((8 * 2 : Nat) : Int) = 16 from rfl, show ((8 * 3 : Nat) : Int) = 24 from rfl, shr_0, shr_8, shr_16, shr_24, List.append_assoc, List.cons_append, List.nil_append]
    congr 2
    simp only [List.cons.injEq, and_true]
    omega
  · have w1 : IntKind.u64.wrap n = n := by simp [IntKind.wrap, IntKind.bits, IntKind.signed]; omega
    have w2 : shl .u64 (IntKind.u64.wrap 3) (wrap64 ((wrap64 (8 * 8)) - 2)) = ((3 * 2 ^ 62 : Nat) : Int) := by decide +kernel
    have w3 : bits_TrailingZeros.f (IntKind.u64.wrap 8) = some 3 := by decide +kernel
    have w4 : wrap64 (8 - 1) = ((7 : Nat) : Int) := by decide +kernel
    rw [if_neg (by decide), w3]
    simp only [Option.bind_some]
    rw [if_pos (by decide +kernel), w1, w2, w4, or_mark n 62 3 (by omega) (by omega) (by omega) (by decide), show (k + 9) = k + 1 + 1 + 1 + 1 + 1 + 1 + 1 + 1 + 1 from rfl, append_step _ _ 7 _ (by omega) (by omega), show (((7 : Nat) : Int) - 1) = ((6 : Nat) : Int) from rfl,
      append_step _ _ 6 _ (by omega) (by simp; omega), show (((6 : Nat) : Int) - 1) = ((5 : Nat) : Int) from rfl, append_step _ _ 5 _ (by omega) (by simp; omega), show (((5 : Nat) : Int) - 1) = ((4 : Nat) : Int) from rfl,
      append_step _ _ 4 _ (by omega) (by simp; omega), show (((4 : Nat) : Int) - 1) = ((3 : Nat) : Int) from rfl, append_step _ _ 3 _ (by omega) (by simp; omega), show (((3 : Nat) : Int) - 1) = ((2 : Nat) : Int) from rfl,
      append_step _ _ 2 _ (by omega) (by simp; omega), show (((2 : Nat) : Int) - 1) = ((1 : Nat) : Int) from rfl, append_step _ _ 1 _ (by omega) (by simp; omega), show (((1 : Nat) : Int) - 1) = ((0 : Nat) : Int) from rfl,
      append_step _ _ 0 _ (by omega) (by simp; omega), show (((0 : Nat) : Int) - 1) = -1 from rfl, append_end]
    simp only [show ((8 * 0 : Nat) : Int) = 0 from rfl, show ((8 * 1 : Nat) : Int) = 8 from rfl, show ((8 * 2 : Nat) : Int) = 16 from rfl, show ((8 * 3 : Nat) : Int) = 24 from rfl, show ((8 * 4 : Nat) : Int) = 32 from rfl, show ((8 * 5 : Nat) : Int) = 40 from rfl, show ((8 * 6 : Nat) : Int) = 48 from rfl, show ((8 * 7 : Nat) : Int) = 56 from rfl,
      shr_0, shr_8, shr_16, shr_24, shr_32, shr_40, shr_48, shr_56, List.append_assoc, List.cons_append, List.nil_append]
    congr 2
    simp only [List.cons.injEq, and_true]
    omega
theorem vread_f (l : List Int) (hB : Bytes l) : varint_Read.f l = some (vread l) := by unfold varint_Read.f; rw [if_pos hB]
theorem awake_f (k : Nat) (hk : 40 < k) : shibbolethlaw01_awake.f k = some true := by
  unfold shibbolethlaw01_awake.f
  rw [vread_f _ (by decide), append_f [] 63 (by simp) k (by omega), append_f [] 16384 (by simp) k (by omega)]
  simp only [Option.bind_some, List.nil_append]
  rw [show vbytes 63 = [63] from by decide +kernel, show vbytes 16384 = [128, 0, 64, 0] from by decide +kernel, same_f _ (by simp) k (by simp; omega), same_f _ (by simp) k (by simp; omega)]
  decide +kernel
end Go.Proofs.YtbcleckapamicaaDoor.VaP
namespace Go.Proofs.YtbcleckapamicaaDoor.HeP
open Go.RowKit Go.Proofs.YtbcleckapamicaaDoorW.PrintWords Go.Proofs.YtbcleckapamicaaDoorW.PrintLast Go.Proofs.YtbcleckapamicaaDoorW.PrintMore Go.Proofs.YtbcleckapamicaaDoor.QHe Go.Proofs.YtbcleckapamicaaDoor.Vn
open Go.Proofs.YtbcleckapamicaaDoor.Gw (slices_Concat_byte_byte.f)
open Go.Proofs.YtbcleckapamicaaDoor.QVa (varint_Append.f varint_Give.f)
open Go.Proofs.YtbcleckapamicaaDoor.VaP (append_f)
set_option linter.unusedVariables false
set_option linter.unusedSimpArgs false
theorem same_l (l : List Int) (hl : l.length ≤ 9223372036854775806) : ∀ (d i k : Nat), i + d = l.length → d < k → shibbolethlaw05_same.l0 k l l (i : Int) = some true := by
  intro d
  induction d with
  | zero =>
    intro i k hi hk
    obtain ⟨k, rfl⟩ : ∃ m, k = m + 1 := ⟨k - 1, by omega⟩
    simp only [shibbolethlaw05_same.l0]
    rw [if_neg (by omega)]
  | succ d ih =>
    intro i k hi hk
    obtain ⟨k, rfl⟩ : ∃ m, k = m + 1 := ⟨k - 1, by omega⟩
    simp only [shibbolethlaw05_same.l0]
    rw [if_pos (by omega), if_pos (by omega), if_pos (by omega), if_pos trivial, show wrap64 ((i : Int) + 1) = ((i + 1 : Nat) : Int) from by unfold wrap64; omega]
    exact ih (i + 1) k (by omega) (by omega)
theorem same_f (l : List Int) (hl : l.length ≤ 9223372036854775806) (k : Nat) (hk : l.length < k) : shibbolethlaw05_same.f k l l = some true := by
  unfold shibbolethlaw05_same.f
  rw [if_pos rfl]
  exact same_l l hl l.length 0 k (by omega) hk
def hbig (n : Int) (w : Int) : List Int :=
  if w = 1 then [n % 256] else if w = 2 then [n / 256 % 256, n % 256] else if w = 3 then [n / 65536 % 256, n / 256 % 256, n % 256] else [n / 16777216 % 256, n / 65536 % 256, n / 256 % 256, n % 256]
theorem hbig_len (n w : Int) : (hbig n w).length ≤ 4 := by unfold hbig; (repeat' split) <;> simp
theorem big_f (n w : Int) (h1 : 1 ≤ w) (h4 : w ≤ 4) (k : Nat) (hk : 5 < k) : header_big.f k n w = some (hbig n w) := by
  obtain ⟨k, rfl⟩ : ∃ m, k = m + 6 := ⟨k - 6, by omega⟩
  unfold header_big.f
  rw [if_pos (by omega), if_pos (by omega)]
  obtain rfl | rfl | rfl | rfl : w = 1 ∨ w = 2 ∨ w = 3 ∨ w = 4 := by omega
  all_goals simp [header_big.l0, wrap64, shr, IntKind.bits, hbig, List.replicate]
def hbound (w : Int) : Int := if w = 1 then 256 else if w = 2 then 65536 else if w = 3 then 16777216 else 4294967296
theorem wide_f (n w : Int) (h1 : 1 ≤ w) (h4 : w ≤ 4) : header_wide.f n w = some (decide (0 ≤ n ∧ n < hbound w)) := by
  unfold header_wide.f
  obtain rfl | rfl | rfl | rfl : w = 1 ∨ w = 2 ∨ w = 3 ∨ w = 4 := by omega
  all_goals
    by_cases h : 0 ≤ n
    · simp [h, wrap64, shl, IntKind.wrap, IntKind.bits, IntKind.signed, hbound]
    · simp [h]
def hright (a0 a1 : Int) (l2 l3 l4 : List Int) (a5 a6 a7 : Int) : Prop := 1 ≤ a7 ∧ a7 ≤ 4 ∧ 0 ≤ a6 ∧ a6 < hbound a7 ∧
  ((a0 = 3 ∧ a1 = 0 ∧ l2.length = 8 ∧ l3.length = 0 ∧ l4.length = 0 ∧ (a5 = 0 ∨ a5 = 1)) ∨
   (0 ≤ a0 ∧ a0 < 3 ∧ 1 ≤ a1 ∧ a1 ≤ 4294967295 ∧ l2.length ≤ 20 ∧ l3.length ≤ 20 ∧ a5 = 0 ∧ l4.length ≤ 64 ∧ (a0 = 0 ∨ l4.length = 0)))
instance (a0 a1 : Int) (l2 l3 l4 : List Int) (a5 a6 a7 : Int) : Decidable (hright a0 a1 l2 l3 l4 a5 a6 a7) := by unfold hright; infer_instance
theorem some_decide {p q : Prop} [Decidable p] [Decidable q] (h : p ↔ q) : some (decide p) = some (decide q) := by simp [h]
theorem beq_decide (a b : Int) : (a == b) = decide (a = b) := by by_cases h : a = b <;> simp [h]
theorem true_decide {q : Prop} [Decidable q] (h : q) : some true = some (decide q) := by simp [h]
theorem false_decide {q : Prop} [Decidable q] (h : ¬ q) : some false = some (decide q) := by simp [h]
theorem right_f (a0 a1 : Int) (l2 l3 l4 : List Int) (a5 a6 a7 : Int) (k : Nat) (hk : 5 < k) : header_Right.f k a0 a1 l2 l3 l4 a5 a6 a7 = some (decide (hright a0 a1 l2 l3 l4 a5 a6 a7)) := by
  obtain ⟨k, rfl⟩ : ∃ m, k = m + 1 := ⟨k - 1, by omega⟩
  unfold header_Right.f
  by_cases h1 : a7 < 1
  · rw [if_pos h1]; simp only [header_Right.j0]; rw [if_pos trivial]; exact false_decide (by unfold hright; omega)
  rw [if_neg h1]
  by_cases h4 : a7 > 4
  · rw [if_pos h4]; simp only [header_Right.j0]; rw [if_pos trivial]; exact false_decide (by unfold hright; omega)
  rw [if_neg h4, wide_f a6 a7 (by omega) (by omega)]
  simp only [Option.bind_some, header_Right.j0]
  by_cases hb : 0 ≤ a6 ∧ a6 < hbound a7
  · rw [decide_eq_true hb, if_neg (by decide), wide_f a1 4 (by omega) (by omega)]
    simp only [Option.bind_some, beq_decide, decide_eq_true_eq, show hbound 4 = 4294967296 from rfl]
    repeat' split
    all_goals first | exact true_decide (by unfold hright; omega) | exact false_decide (by unfold hright; omega) | exact some_decide (by unfold hright; omega)
  · rw [decide_eq_false hb, if_pos (by decide)]
    exact false_decide (by unfold hright; omega)
def hbytes (a0 a1 : Int) (l2 l3 l4 : List Int) (a5 a6 a7 n : Int) : List Int :=
  if a0 = 3 then [63 + 4 * a5 + a7] ++ l2 ++ hbig a6 a7
  else [191 + 16 * a0 + a7] ++ hbig a1 4 ++ ((l2.length : Int) :: l2) ++ ((l3.length : Int) :: l3) ++ (if a0 = 0 then vbytes l4.length ++ l4 else []) ++ vbytes (a7 + n) ++ hbig a6 a7
theorem hbytes_len (a0 a1 : Int) (l2 l3 l4 : List Int) (a5 a6 a7 n : Int) (h : hright a0 a1 l2 l3 l4 a5 a6 a7) : (hbytes a0 a1 l2 l3 l4 a5 a6 a7 n).length ≤ 200 := by
  have e1 := hbig_len a6 a7
  have e2 := hbig_len a1 4
  have e3 := vbytes_le (l4.length : Int)
  have e4 := vbytes_le (a7 + n)
  unfold hright at h
  unfold hbytes
  split
  · simp; omega
  · split <;> simp <;> omega
theorem named_f (l : List Int) (h : l.length ≤ 255) : header_named.f l = some ((l.length : Int) :: l) := by
  unfold header_named.f
  simp only [Option.bind_some]
  rw [if_pos (by simp; omega), show (l.length : Int) % 256 = l.length from by omega]
  rfl
theorem concat_f (y : List (List Int)) (h : y.flatten.length ≤ 140737488355328) : slices_Concat_byte_byte.f y = some y.flatten := by
  unfold slices_Concat_byte_byte.f
  rw [if_pos h]
theorem give_f (l p : List Int) (hl : l.length ≤ 100000) (hp : p.length ≤ 100000) (k : Nat) (hk : 9 < k) : varint_Give.f k l p = some (l ++ vbytes p.length ++ p) := by
  have h8 := vbytes_le (p.length : Int)
  unfold varint_Give.f
  rw [append_f l _ (by omega) k hk]
  simp only [Option.bind_some]
  rw [if_pos (by rw [List.length_append]; omega)]
theorem write_f (a0 a1 : Int) (l2 l3 l4 : List Int) (a5 a6 a7 n : Int) (k : Nat) (hk : 40 < k) : header_Write.f k a0 a1 l2 l3 l4 a5 a6 a7 n =
    some (if hright a0 a1 l2 l3 l4 a5 a6 a7 ∧ 0 ≤ n ∧ n ≤ 16384 then hbytes a0 a1 l2 l3 l4 a5 a6 a7 n else []) := by
  obtain ⟨k, rfl⟩ : ∃ m, k = m + 1 := ⟨k - 1, by omega⟩
  unfold header_Write.f
  rw [right_f _ _ _ _ _ _ _ _ _ (by omega)]
  simp only [Option.bind_some]
  by_cases h : hright a0 a1 l2 l3 l4 a5 a6 a7
  · rw [decide_eq_true h, if_pos rfl]
    by_cases h0 : n < 0
    · rw [if_pos h0, if_neg (by omega)]; simp only [header_Write.j0]; rw [if_pos trivial]
    rw [if_neg h0]
    by_cases h1 : n > 16384
    · rw [decide_eq_true h1, if_neg (by omega)]; simp only [header_Write.j0]; rw [if_pos trivial]
    rw [decide_eq_false h1, if_pos ⟨h, by omega, by omega⟩]
    simp only [header_Write.j0]
    rw [if_neg (by decide)]
    have hh := h
    unfold hright at hh
    have e1 := hbig_len a6 a7
    have e2 := hbig_len a1 4
    have e3 := vbytes_le (l4.length : Int)
    have e4 := vbytes_le (a7 + n)
    unfold hbytes
    by_cases h3 : a0 = 3
    · rw [if_pos h3, if_pos h3, big_f _ _ (by omega) (by omega) _ (by omega)]
      simp only [Option.bind_some]
      have w1 : wrap64 ((wrap64 ((wrap64 (64 + (wrap64 (4 * a5)))) + a7)) - 1) % 256 = 63 + 4 * a5 + a7 := by unfold wrap64; omega
      rw [w1, concat_f _ (by simp; omega)]
      simp
    · rw [if_neg h3, if_neg h3, big_f _ _ (by omega) (by omega) _ (by omega), big_f _ _ (by omega) (by omega) _ (by omega), named_f _ (by omega), named_f _ (by omega)]
      simp only [Option.bind_some]
      have w1 : wrap64 ((wrap64 ((wrap64 (192 + (wrap64 (16 * a0)))) + a7)) - 1) % 256 = 191 + 16 * a0 + a7 := by unfold wrap64; omega
      have w2 : wrap64 (a7 + n) = a7 + n := by unfold wrap64; omega
      rw [w1, w2, concat_f _ (by simp; omega)]
      simp only [Option.bind_some]
      by_cases h00 : a0 = 0
      · rw [if_pos h00, if_pos h00, give_f _ _ (by simp; omega) (by omega) _ (by omega)]
        simp only [Option.bind_some]
        rw [append_f _ _ (by simp; omega) _ (by omega)]
        simp only [Option.bind_some]
        rw [if_pos (by simp; omega)]
        simp
      · rw [if_neg h00, if_neg h00, append_f _ _ (by simp; omega) _ (by omega)]
        simp only [Option.bind_some]
        rw [if_pos (by simp; omega)]
        simp
  · rw [decide_eq_false h, if_neg (by decide), if_neg (by simp [h])]; simp only [header_Write.j0]; rw [if_pos trivial]
theorem awake_f (k : Nat) (hk : 40 < k) : shibbolethlaw05_awake.f k = some true := by
  unfold shibbolethlaw05_awake.f
  rw [if_pos (by omega), write_f _ _ _ _ _ _ _ _ _ k hk, if_pos (by decide)]
  simp only [Option.bind_some]
  decide
end Go.Proofs.YtbcleckapamicaaDoor.HeP
namespace Go.Proofs.YtbcleckapamicaaDoor.HrP
open Go.RowKit Go.Proofs.YtbcleckapamicaaDoorW.PrintWords Go.Proofs.YtbcleckapamicaaDoor.Vn Go.Proofs.YtbcleckapamicaaDoor.Hr Go.Proofs.YtbcleckapamicaaDoor.HeP
set_option linter.unusedVariables false
set_option linter.unusedSimpArgs false
def Seg (l : List Int) (p : Nat) (s : List Int) : Prop := ∃ rest, l.drop p = s ++ rest
theorem Seg.le {l : List Int} {p : Nat} {s : List Int} (h : Seg l p s) (hp : p ≤ l.length) : p + s.length ≤ l.length := by
  obtain ⟨r, h⟩ := h
  have := congrArg List.length h
  simp at this
  omega
theorem Seg.next {l : List Int} {p : Nat} {s t : List Int} (h : Seg l p (s ++ t)) : Seg l (p + s.length) t := by
  obtain ⟨r, h⟩ := h
  refine ⟨r, ?_⟩
  rw [← List.drop_drop, h, List.append_assoc, List.drop_left]
theorem Seg.left {l : List Int} {p : Nat} {s t : List Int} (h : Seg l p (s ++ t)) : Seg l p s := by
  obtain ⟨r, h⟩ := h
  exact ⟨t ++ r, by rw [h, List.append_assoc]⟩
theorem Seg.take {l : List Int} {p : Nat} {s : List Int} (h : Seg l p s) : (l.drop p).take s.length = s := by
  obtain ⟨r, h⟩ := h
  rw [h, List.take_left]
theorem rdB_seg {l : List Int} {p : Nat} {s : List Int} (h : Seg l p s) (hp : p ≤ l.length) : rdB l p s.length = .ok (s, p + s.length) := by
  unfold rdB
  rw [if_pos (h.le hp), h.take]
theorem rdN_seg {l : List Int} {p : Nat} {s : List Int} (h : Seg l p s) (hp : p ≤ l.length) : rdN l p s.length = .ok (numF s, p + s.length) := by
  unfold rdN
  rw [if_pos (h.le hp), h.take]
theorem rdV_seg {l : List Int} {p : Nat} {n : Int} (h : Seg l p (vbytes n)) (h0 : 0 ≤ n) (h1 : n ≤ 4611686018427387903) : rdV l p = .ok (n, p + (vbytes n).length) := by
  obtain ⟨r, h⟩ := h
  unfold rdV
  rw [h, vread_vbytes n h0 h1 r, if_pos rfl]
  simp
theorem numF_big (n w : Int) (h1 : 1 ≤ w) (h4 : w ≤ 4) (h0 : 0 ≤ n) (hb : n < hbound w) : numF (hbig n w) = n ∧ ((hbig n w).length : Int) = w := by
  unfold hbound at hb
  unfold hbig
  obtain rfl | rfl | rfl | rfl : w = 1 ∨ w = 2 ∨ w = 3 ∨ w = 4 := by omega
  all_goals
    simp at hb ⊢
    simp [numF]
    omega
theorem numF_one (x : Int) : numF [x] = x := by simp [numF]
theorem rdC_seg {l : List Int} {p : Nat} {s : List Int} {m : Int} (h : Seg l p ((s.length : Int) :: s)) (hp : p ≤ l.length) (hm : (s.length : Int) ≤ m) : rdC (rdN l p 1) l m = .ok (s, p + (s.length + 1)) := by
  have h1 : Seg l p ([(s.length : Int)] ++ s) := h
  have h2 := rdN_seg h1.left hp
  have h3 := h1.left.le hp
  rw [List.length_singleton, numF_one] at h2
  rw [h2]
  show (if (s.length : Int) ≤ m then rdB l (p + 1) (s.length : Int).toNat else .error 4) = _
  rw [if_pos hm, Int.toNat_natCast]
  have h4 := rdB_seg h1.next (by simpa using h3)
  rw [List.length_singleton] at h4
  rw [h4, Nat.add_assoc, Nat.add_comm 1]
theorem rdCV_seg {l : List Int} {p : Nat} {s : List Int} {m : Int} (h : Seg l p (vbytes s.length ++ s)) (hp : p ≤ l.length) (hm : (s.length : Int) ≤ m) (hs : s.length ≤ 100000) : rdC (rdV l p) l m = .ok (s, p + ((vbytes s.length).length + s.length)) := by
  have h3 := h.left.le hp
  rw [rdV_seg h.left (by omega) (by omega)]
  show (if (s.length : Int) ≤ m then rdB l (p + (vbytes s.length).length) (s.length : Int).toNat else .error 4) = _
  rw [if_pos hm, Int.toNat_natCast, rdB_seg h.next h3, Nat.add_assoc]
def lbytes (a0 a1 : Int) (l2 l3 l4 : List Int) (a6 a7 n : Int) : List Int :=
  [191 + 16 * a0 + a7] ++ (hbig a1 4 ++ (((l2.length : Int) :: l2) ++ (((l3.length : Int) :: l3) ++ ((if a0 = 0 then vbytes l4.length ++ l4 else []) ++ (vbytes (a7 + n) ++ hbig a6 a7)))))
theorem hbytes_long (a0 a1 : Int) (l2 l3 l4 : List Int) (a5 a6 a7 n : Int) (h : a0 ≠ 3) : hbytes a0 a1 l2 l3 l4 a5 a6 a7 n = lbytes a0 a1 l2 l3 l4 a6 a7 n := by
  unfold hbytes lbytes
  rw [if_neg h]
  simp
theorem head_part {a0 a7 : Int} (h0 : 0 ≤ a0) (h3 : a0 < 3) (h7 : 1 ≤ a7) (h7' : a7 ≤ 4) : ¬ (191 + 16 * a0 + a7 < 192) ∧ (191 + 16 * a0 + a7) / 4 % 4 = 0 ∧ (191 + 16 * a0 + a7) / 16 % 4 = a0 ∧ (191 + 16 * a0 + a7) % 4 + 1 = a7 := by omega
theorem Seg.cut {l : List Int} {p k : Nat} {s : List Int} (h : Seg l p s) (hk : p + s.length ≤ k) : Seg (l.take k) p s := by
  obtain ⟨r, h⟩ := h
  refine ⟨r.take (k - p - s.length), ?_⟩
  rw [List.drop_take, h, List.take_append, List.take_of_length_le (by omega)]
theorem rdN_short {l : List Int} {p k n : Nat} (hk : k < p + n) : rdN (l.take k) p n = .error 2 := by
  unfold rdN
  rw [if_neg (by rw [List.length_take]; omega)]
theorem rdB_short {l : List Int} {p k n : Nat} (hk : k < p + n) : rdB (l.take k) p n = .error 2 := by
  unfold rdB
  rw [if_neg (by rw [List.length_take]; omega)]
theorem rdV_short {l : List Int} {p k : Nat} {n : Int} (h : Seg l p (vbytes n)) (hk : k < p + (vbytes n).length) : rdV (l.take k) p = .error 2 := by
  obtain ⟨r, h⟩ := h
  unfold rdV
  rw [List.drop_take, h, List.take_append_of_le_length (by omega)]
  by_cases hp : k ≤ p
  · rw [show k - p = 0 by omega, List.take_zero]
    have : vread [] = (0, 0, 2) := by simp [vread]
    rw [this, if_neg (by decide)]
  · rw [vread_short n (k - p) (by omega), if_neg (by decide)]
theorem rdC_short {l : List Int} {p k : Nat} {s : List Int} {m : Int} (h : Seg l p ((s.length : Int) :: s)) (hp : p ≤ l.length) (hm : (s.length : Int) ≤ m) (hk : k < p + (s.length + 1)) : rdC (rdN (l.take k) p 1) (l.take k) m = .error 2 := by
  have h1 : Seg l p ([(s.length : Int)] ++ s) := h
  by_cases h2 : p + 1 ≤ k
  · have h3 := h1.left.cut (k := k) (by simpa using h2)
    have h4 := h1.left.le hp
    rw [List.length_singleton] at h4
    have h5 := rdN_seg h3 (by rw [List.length_take]; omega)
    rw [List.length_singleton, numF_one] at h5
    rw [h5]
    show (if (s.length : Int) ≤ m then rdB (l.take k) (p + 1) (s.length : Int).toNat else .error 4) = _
    rw [if_pos hm, Int.toNat_natCast, rdB_short (by omega)]
  · rw [rdN_short (by omega)]
    rfl
theorem rdCV_short {l : List Int} {p k : Nat} {s : List Int} {m : Int} (h : Seg l p (vbytes s.length ++ s)) (hp : p ≤ l.length) (hm : (s.length : Int) ≤ m) (hs : s.length ≤ 100000) (hk : k < p + ((vbytes s.length).length + s.length)) : rdC (rdV (l.take k) p) (l.take k) m = .error 2 := by
  by_cases h2 : p + (vbytes s.length).length ≤ k
  · rw [rdV_seg (h.left.cut h2) (by omega) (by omega)]
    show (if (s.length : Int) ≤ m then rdB (l.take k) (p + (vbytes s.length).length) (s.length : Int).toNat else .error 4) = _
    rw [if_pos hm, Int.toNat_natCast, rdB_short (by omega)]
  · rw [rdV_short h.left (by omega)]
    rfl
theorem cut_short (a5 a6 a7 : Int) (l2 : List Int) (k : Nat) (h7 : 1 ≤ a7) (h7' : a7 ≤ 4) (h6 : 0 ≤ a6) (h6' : a6 < hbound a7) (h2 : l2.length = 8) (h5 : a5 = 0 ∨ a5 = 1) (hk : k < ([63 + 4 * a5 + a7] ++ l2 ++ hbig a6 a7).length) :
    hread (([63 + 4 * a5 + a7] ++ l2 ++ hbig a6 a7).take k) = .error 2 := by
  obtain ⟨l, hl⟩ : ∃ l, [63 + 4 * a5 + a7] ++ l2 ++ hbig a6 a7 = l := ⟨_, rfl⟩
  rw [hl] at hk ⊢
  have hb := numF_big a6 a7 h7 h7' h6 h6'
  have s0 : Seg l 0 ([63 + 4 * a5 + a7] ++ (l2 ++ hbig a6 a7)) := ⟨[], by rw [← hl]; simp⟩
  have hlen : l.length = 1 + 8 + a7.toNat := by rw [← hl]; simp [h2]; omega
  have s1 := s0.next
  simp only [List.length_singleton, Nat.zero_add] at s1
  have ht : (l.take k).length = k := by rw [List.length_take]; omega
  unfold hread
  by_cases k0 : 1 ≤ k
  · have e0 := rdN_seg (s0.left.cut (k := k) (by simpa using k0)) (Nat.zero_le _)
    simp only [List.length_singleton, Nat.zero_add, numF_one] at e0
    rw [e0]
    show (if 63 + 4 * a5 + a7 < 192 then hShort (l.take k) (63 + 4 * a5 + a7) 1 else _) = _
    rw [if_pos (by omega)]
    unfold hShort
    rw [if_pos (by omega)]
    by_cases k1 : 1 + 8 ≤ k
    · have e1 := rdB_seg (s1.left.cut (k := k) (by omega)) (by omega)
      rw [h2] at e1
      rw [e1]
      show (match rdN (l.take k) (1 + 8) ((63 + 4 * a5 + a7) % 4 + 1).toNat with | .error e => Except.error e | .ok (nm, p2) => _) = _
      rw [rdN_short (by omega)]
    · rw [rdB_short (by omega)]
  · rw [rdN_short (by omega)]
set_option maxHeartbeats 1000000 in
theorem cut_long (a0 a1 a6 a7 : Int) (l2 l3 l4 : List Int) (k : Nat) (h0 : 0 ≤ a0) (h3 : a0 < 3) (h7 : 1 ≤ a7) (h7' : a7 ≤ 4) (h6 : 0 ≤ a6) (h6' : a6 < hbound a7) (h1 : 1 ≤ a1) (h1' : a1 ≤ 4294967295) (h2 : l2.length ≤ 20) (h3' : l3.length ≤ 20) (h4 : l4.length ≤ 64)
    (h40 : a0 = 0 ∨ l4.length = 0) (hk : k < (lbytes a0 a1 l2 l3 l4 a6 a7 0).length) :
    hread ((lbytes a0 a1 l2 l3 l4 a6 a7 0).take k) = .error 2 := by
  obtain ⟨l, hl⟩ : ∃ l, lbytes a0 a1 l2 l3 l4 a6 a7 0 = l := ⟨_, rfl⟩
  rw [hl] at hk ⊢
  have hb := numF_big a6 a7 h7 h7' h6 h6'
  have hv := numF_big a1 4 (by decide) (by decide) (by omega) (by simp [hbound]; omega)
  have hv4 : (hbig a1 4).length = 4 := by have := hv.2; omega
  have hw : (hbig a6 a7).length = a7.toNat := by omega
  have s0 : Seg l 0 (lbytes a0 a1 l2 l3 l4 a6 a7 0) := ⟨[], by rw [← hl]; simp⟩
  have hL := congrArg List.length hl
  unfold lbytes at s0 hL
  simp only [List.length_append, List.length_cons, List.length_nil, hv4, hw] at hL
  obtain ⟨q0, q1, q2, q3⟩ := head_part h0 h3 h7 h7'
  have ht : (l.take k).length = k := by rw [List.length_take]; omega
  have s1 := s0.next
  simp only [List.length_singleton, Nat.zero_add] at s1
  have s2 := s1.next
  rw [hv4] at s2
  have s3 := s2.next
  simp only [List.length_cons] at s3
  have s4 := s3.next
  simp only [List.length_cons] at s4
  unfold hread
  by_cases k0 : 1 ≤ k
  rotate_left
  · rw [rdN_short (by omega)]
  have e0 := rdN_seg (s0.left.cut (k := k) (by simpa using k0)) (Nat.zero_le _)
  simp only [List.length_singleton, Nat.zero_add, numF_one] at e0
  rw [e0]
  show (if 191 + 16 * a0 + a7 < 192 then _ else hLong (l.take k) (191 + 16 * a0 + a7) 1) = _
  rw [if_neg q0]
  unfold hLong
  rw [if_pos ⟨q1, by omega⟩, q2, q3]
  unfold hS11
  by_cases k1 : 1 + 4 ≤ k
  rotate_left
  · rw [rdN_short (by omega)]
  have e1 := rdN_seg (s1.left.cut (k := k) (by omega)) (by omega)
  rw [hv4, hv.1] at e1
  rw [e1]
  show (if 0 < a1 then hS13 (l.take k) a0 a1 a7 (1 + 4) else _) = _
  rw [if_pos (by omega)]
  unfold hS13
  by_cases k2 : 1 + 4 + (l2.length + 1) ≤ k
  rotate_left
  · rw [rdC_short s2.left (by omega) (by omega) (by omega)]
  have e2 := rdC_seg (s2.left.cut (k := k) (by simpa using k2)) (by omega) (m := ((20 : Nat) : Int)) (by omega)
  rw [e2]
  show hS14 (l.take k) a0 a1 l2 a7 (1 + 4 + (l2.length + 1)) = _
  unfold hS14
  by_cases k3 : 1 + 4 + (l2.length + 1) + (l3.length + 1) ≤ k
  rotate_left
  · rw [rdC_short s3.left (by omega) (by omega) (by omega)]
  have e3 := rdC_seg (s3.left.cut (k := k) (by simpa using k3)) (by omega) (m := ((20 : Nat) : Int)) (by omega)
  rw [e3]
  show hS15 (l.take k) a0 a1 l2 l3 a7 (1 + 4 + (l2.length + 1) + (l3.length + 1)) = _
  obtain ⟨p, hp⟩ : ∃ p, 1 + 4 + (l2.length + 1) + (l3.length + 1) = p := ⟨_, rfl⟩
  rw [hp] at s4 k3 ⊢
  clear e0 e1 e2 e3 s0 s1 s2 s3 k0 k1 k2
  have tail : ∀ q, q ≤ k → Seg l q (vbytes (a7 + 0) ++ hbig a6 a7) → q + (vbytes (a7 + 0)).length + a7.toNat = l.length → ∀ tk, hS17 (l.take k) a0 a1 l2 l3 tk a7 q = .error 2 := by
    intro q hq s5 hqL tk
    unfold hS17
    by_cases k5 : q + (vbytes (a7 + 0)).length ≤ k
    · rw [rdV_seg (s5.left.cut k5) (by omega) (by omega)]
      show (if a7 ≤ a7 + 0 then (if a7 + 0 ≤ ((l.take k).length : Int) - ((q + (vbytes (a7 + 0)).length : Nat) : Int) then _ else Except.error 2) else .error 3) = _
      rw [if_pos (by omega), if_neg (by omega)]
    · rw [rdV_short s5.left (by omega)]
  by_cases hz : a0 = 0
  · rw [if_pos hz] at s4 hL
    have s5 := s4.next
    rw [List.length_append] at s5 hL
    unfold hS15
    rw [if_pos hz]
    by_cases k4 : p + ((vbytes l4.length).length + l4.length) ≤ k
    · rw [rdCV_seg (s4.left.cut (by rw [List.length_append]; omega)) (by omega) (by omega) (by omega)]
      exact tail _ k4 s5 (by omega) _
    · rw [rdCV_short s4.left (by omega) (by omega) (by omega) (by omega)]
  · rw [if_neg hz] at s4 hL
    rw [List.nil_append] at s4
    unfold hS15
    rw [if_neg hz]
    exact tail p k3 s4 (by simp only [List.length_nil] at hL; omega) _
end Go.Proofs.YtbcleckapamicaaDoor.HrP
namespace Go.Proofs.YtbcleckapamicaaDoor.QHc
open Go Go.RowKit Go.Proofs.YtbcleckapamicaaDoorW.PrintWords Go.Proofs.YtbcleckapamicaaDoorW.PrintLast Go.Proofs.YtbcleckapamicaaDoorW.PrintMore Go.Proofs.YtbcleckapamicaaDoor.QHe Go.Proofs.YtbcleckapamicaaDoor.HeP Go.Proofs.YtbcleckapamicaaDoor.Hr Go.Proofs.YtbcleckapamicaaDoor.HrP
open Go.Proofs.YtbcleckapamicaaDoor.Gv (TB TB.below TB.alloc)
set_option linter.unusedVariables false
set_option linter.unusedSimpArgs false
set_option hygiene false
local macro "pp150_" : term => `((by rw [World.cell?_alloc_at _ _ _ _ rfl]; rfl))
set_option hygiene true
def Bt (l : List Int) : Prop := ∀ x ∈ l, 0 ≤ x ∧ x ≤ 255
instance (l : List Int) : Decidable (Bt l) := inferInstanceAs (Decidable (∀ x ∈ l, 0 ≤ x ∧ x ≤ 255))
def lightB (l2 l3 l4 : List Int) : Bool := decide ((l2.length : Int) ≤ 100 ∧ (l3.length : Int) ≤ 100 ∧ (l4.length : Int) ≤ 200)
theorem light_f (a0 a1 : Int) (l2 l3 l4 : List Int) (a5 a6 a7 : Int) : shibbolethlaw05_light.f a0 a1 l2 l3 l4 a5 a6 a7 = some (lightB l2 l3 l4) := by
 unfold shibbolethlaw05_light.f lightB
 repeat' split
 all_goals first | exact false_decide (by omega) | exact some_decide (by omega)
theorem of_f (a0 a1 : Int) (l2 l3 l4 : List Int) (a5 a6 a7 : Int) (h2 : l2.length ≤ 1000) (h3 : l3.length ≤ 1000) (h4 : l4.length ≤ 1000) : shibbolethlaw05_of.f a0 a1 l2 l3 l4 a5 a6 a7 = some (a0, a1, l2, l3, l4, a5, a6, a7) := by
 unfold shibbolethlaw05_of.f
 simp only [Option.bind_some, List.length_nil, List.nil_append]
 rw [if_pos (by omega), if_pos (by omega), if_pos (by omega)]
theorem hbig_bytes (n w : Int) (h : 0 ≤ n) : Bt (hbig n w) := by
 unfold hbig Bt
 intro x hx
 (repeat' split at hx) <;> simp at hx <;> omega
theorem hbytes_bt {a0 a1 : Int} {l2 l3 l4 : List Int} {a5 a6 a7 n : Int} (h : hright a0 a1 l2 l3 l4 a5 a6 a7) (h2 : Bt l2) (h3 : Bt l3) (h4 : Bt l4) (hn : 0 ≤ n) : Bt (hbytes a0 a1 l2 l3 l4 a5 a6 a7 n) := by
 unfold hright at h
 unfold hbytes
 have b6 := hbig_bytes a6 a7 (by omega)
 intro x hx
 by_cases hz : a0 = 3
 ·rw [if_pos hz] at hx
  simp only [List.mem_append, List.mem_cons, List.not_mem_nil, or_false] at hx
  rcases hx with (rfl | hx) | hx
  ·omega
  ·exact h2 x hx
  ·exact b6 x hx
 ·rw [if_neg hz] at hx
  have b1 := hbig_bytes a1 4 (by omega)
  have bv := Vn.vbytes_bytes (a7 + n)
  have bl := Vn.vbytes_bytes (l4.length : Int)
  simp only [List.mem_append, List.mem_cons, List.not_mem_nil, or_false] at hx
  rcases hx with (((((rfl | hx) | (rfl | hx)) | (rfl | hx)) | hx) | hx) | hx
  ·omega
  ·exact b1 x hx
  ·omega
  ·exact h2 x hx
  ·omega
  ·exact h3 x hx
  ·by_cases h0 : a0 = 0
   ·rw [if_pos h0] at hx
    rcases List.mem_append.1 hx with hx | hx
    ·exact bl x hx
    ·exact h4 x hx
   ·rw [if_neg h0] at hx; cases hx
  ·exact bv x hx
  ·exact b6 x hx
theorem cut_all {a0 a1 : Int} {l2 l3 l4 : List Int} {a5 a6 a7 : Int} (h : hright a0 a1 l2 l3 l4 a5 a6 a7) (k : Nat) (hk : k < (hbytes a0 a1 l2 l3 l4 a5 a6 a7 0).length) : hread ((hbytes a0 a1 l2 l3 l4 a5 a6 a7 0).take k) = .error 2 := by
 unfold hright at h
 obtain ⟨h7, h7', h6, h6', (⟨rfl, rfl, h2, h3, h4, h5⟩ | ⟨h0, h3, h1, h1', h2, h3', h5, h4, h40⟩)⟩ := h
 ·have e : hbytes 3 0 l2 l3 l4 a5 a6 a7 0 = [63 + 4 * a5 + a7] ++ l2 ++ hbig a6 a7 := if_pos rfl
  rw [e] at hk ⊢
  exact cut_short a5 a6 a7 l2 k h7 h7' h6 h6' h2 h5 hk
 ·rw [hbytes_long _ _ _ _ _ _ _ _ _ (by omega)] at hk ⊢
  exact cut_long a0 a1 a6 a7 l2 l3 l4 k h0 h3 h7 h7' h6 h6' h1 h1' h2 h3' h4 h40 hk
def shibbolethlaw05_HeaderCut.f (a0_0 : Int) (a0_1 : Int) (l0_2 : List Int) (l0_3 : List Int) (l0_4 : List Int) (a0_5 : Int) (a0_6 : Int) (a0_7 : Int) (a1 : Int) : Option Bool := if Bt l0_2 ∧ Bt l0_3 ∧ Bt l0_4 ∧ 0 ≤ a1 ∧ a1 ≤ 65535 then some true else none
set_option maxHeartbeats 4000000 in
set_option maxRecDepth 100000 in
theorem shibbolethlaw05_HeaderCut.calls (a0_0 : Int) (a0_1 : Int) (A0_2 : Option Addr) (c0_2 : Nat) (l0_2 : List Int) (A0_3 : Option Addr) (c0_3 : Nat) (l0_3 : List Int) (A0_4 : Option Addr) (c0_4 : Nat) (l0_4 : List Int) (a0_5 : Int) (a0_6 : Int) (a0_7 : Int) (a1 : Int) (r : Bool) (w : World) (hr0_2 : Kd.C (Kd.int .u8) w A0_2 l0_2.length l0_2) (hc0_2 : l0_2.length ≤ c0_2) (hr0_3 : Kd.C (Kd.int .u8) w A0_3 l0_3.length l0_3) (hc0_3 : l0_3.length ≤ c0_3) (hr0_4 : Kd.C (Kd.int .u8) w A0_4 l0_4.length l0_4) (hc0_4 : l0_4.length ≤ c0_4) (ht : TB w) (h : shibbolethlaw05_HeaderCut.f a0_0 a0_1 l0_2 l0_3 l0_4 a0_5 a0_6 a0_7 a1 = some r) :
  Calls Tryd.prog 13 #[.agg #[.int .i64 a0_0, .int .i64 a0_1, .slice A0_2 l0_2.length c0_2, .slice A0_3 l0_3.length c0_3, .slice A0_4 l0_4.length c0_4, .int .i64 a0_5, .int .i64 a0_6, .int .i64 a0_7], .int .u16 a1] w fun e w' => e = .returned (.bool r) ∧ Below w.heap.size w w' := by
 unfold shibbolethlaw05_HeaderCut.f at h
 by_cases hall : Bt l0_2 ∧ Bt l0_3 ∧ Bt l0_4 ∧ 0 ≤ a1 ∧ a1 ≤ 65535
 rotate_left
 ·rw [if_neg hall] at h; cases h
 rw [if_pos hall] at h
 obtain rfl := Option.some.inj h
 obtain ⟨hb2, hb3, hb4, h1a, h1b⟩ := hall
 clear h
 obtain ⟨wb, hwb⟩ : ∃ wb, w.alloc (.cells #[.int .i64 a0_0, .int .i64 a0_1, .slice A0_2 l0_2.length c0_2, .slice A0_3 l0_3.length c0_3, .slice A0_4 l0_4.length c0_4, .int .i64 a0_5, .int .i64 a0_6, .int .i64 a0_7] 44) = wb := ⟨_, rfl⟩
 have hbb : Below w.heap.size w wb := by rw [← hwb]; exact below_alloc (Below.refl _ _) _
 have LT := shibbolethlaw05_light.calls a0_0 a0_1 A0_2 c0_2 l0_2 A0_3 c0_3 l0_3 A0_4 c0_4 l0_4 a0_5 a0_6 a0_7 _ wb (Kd.C_below hr0_2 hbb) hc0_2 (Kd.C_below hr0_3 hbb) hc0_3 (Kd.C_below hr0_4 hbb) hc0_4 (light_f _ _ _ _ _ _ _ _)
 by_cases hl : lightB l0_2 l0_3 l0_4 = true
 rotate_left
 ·have hl' : lightB l0_2 l0_3 l0_4 = false := by simpa using hl
  rw [hl', ← hwb] at LT
  clear hl hl' hb2 hb3 hb4 hr0_2 hr0_3 hr0_4 hc0_2 hc0_3 hc0_4 ht
  have HBB := Aside0.mk hbb
  have HWB := Aside0.mk hwb
  clear hbb hwb
  go_enter Tryd.func13, Tryd.ntmps13
  go_wp2_with (go_at_call 33; refine LT.mono ?_; rintro e1 w1 ⟨rfl, hb1⟩; have HB1 := Aside0.mk hb1; clear hb1)
  go_ret
  exact ⟨rfl, by have h1 := HB1.out; rw [HWB.out] at h1; exact below_step HBB.out h1⟩
 ·rw [hl, ← hwb] at LT
  have hlen : l0_2.length ≤ 100 ∧ l0_3.length ≤ 100 ∧ l0_4.length ≤ 200 := by have := of_decide_eq_true hl; omega
  have C2 := Aside0.mk hr0_2
  have C3 := Aside0.mk hr0_3
  have C4 := Aside0.mk hr0_4
  have L2 := Aside0.mk hc0_2
  have L3 := Aside0.mk hc0_3
  have L4 := Aside0.mk hc0_4
  have HT := Aside0.mk ht
  have HB := Aside0.mk (show Bt l0_2 ∧ Bt l0_3 ∧ Bt l0_4 from ⟨hb2, hb3, hb4⟩)
  have HLEN := Aside0.mk hlen
  have HBB := Aside0.mk hbb
  have HWB := Aside0.mk hwb
  clear hl hb2 hb3 hb4 hr0_2 hr0_3 hr0_4 hc0_2 hc0_3 hc0_4 ht hlen hbb hwb
  obtain ⟨rw_, hrw⟩ : ∃ x, (if hright a0_0 a0_1 l0_2 l0_3 l0_4 a0_5 a0_6 a0_7 ∧ (0 : Int) ≤ 0 ∧ (0 : Int) ≤ 16384 then hbytes a0_0 a0_1 l0_2 l0_3 l0_4 a0_5 a0_6 a0_7 0 else []) = x := ⟨_, rfl⟩
  have HRW := Aside0.mk hrw
  clear hrw
  go_enter Tryd.func13, Tryd.ntmps13
  go_upto_region 3 with (go_at_call 33; refine LT.mono ?_; rintro e1 w1 ⟨rfl, hb1⟩; have HB1 := Aside0.mk hb1; have q0 : w1.cell? ⟨w.heap.size, 0, none⟩ = some (.int .i64 a0_0) := pw_cell_below hb1 (pp150_); have q1 : w1.cell? ⟨w.heap.size, 1, none⟩ = some (.int .i64 a0_1) := pw_cell_below hb1 (pp150_); have q2 : w1.cell? ⟨w.heap.size, 2, none⟩ = some (.slice A0_2 l0_2.length c0_2) := pw_cell_below hb1 (pp150_); have q3 : w1.cell? ⟨w.heap.size, 3, none⟩ = some (.slice A0_3 l0_3.length c0_3) := pw_cell_below hb1 (pp150_); have q4 : w1.cell? ⟨w.heap.size, 4, none⟩ = some (.slice A0_4 l0_4.length c0_4) := pw_cell_below hb1 (pp150_); have q5 : w1.cell? ⟨w.heap.size, 5, none⟩ = some (.int .i64 a0_5) := pw_cell_below hb1 (pp150_); have q6 : w1.cell? ⟨w.heap.size, 6, none⟩ = some (.int .i64 a0_6) := pw_cell_below hb1 (pp150_); have q7 : w1.cell? ⟨w.heap.size, 7, none⟩ = some (.int .i64 a0_7) := pw_cell_below hb1 (pp150_); clear hb1)
  clear LT
  have B1 := Aside0.mk (show Below w.heap.size w w1 by have h1 := HB1.out; rw [HWB.out] at h1; exact below_step HBB.out h1)
  go_upto_region 4 with (first
   | (go_at_call 34; refine (shibbolethlaw05_of.calls a0_0 a0_1 A0_2 c0_2 l0_2 A0_3 c0_3 l0_3 A0_4 c0_4 l0_4 a0_5 a0_6 a0_7 _ _ _ _ _ _ _ _ _ (Kd.C_below C2.out B1.out) L2.out (Kd.C_below C3.out B1.out) L3.out (Kd.C_below C4.out B1.out) L4.out (of_f _ _ _ _ _ _ _ _ (by have := HLEN.out; omega) (by have := HLEN.out; omega) (by have := HLEN.out; omega))).mono ?_; rintro e2 w2 ⟨v2, v3, v4, rfl, hv2, hv3, hv4, hb2⟩; obtain ⟨Aa, ca, ea⟩ := Kd.R_slice hv2; obtain ⟨Ab, cb, eb⟩ := Kd.R_slice hv3; obtain ⟨Ac, cc, ec⟩ := Kd.R_slice hv4; subst ea eb ec; have V2 := Aside0.mk hv2; have V3 := Aside0.mk hv3; have V4 := Aside0.mk hv4; have B2 := Aside0.mk (below_step B1.out hb2); clear hv2 hv3 hv4 hb2)
   | (go_at_call 35; refine (header_Write.calls 3000 a0_0 a0_1 _ Aa ca l0_2 Ab cb l0_3 Ac cc l0_4 a0_5 a0_6 a0_7 0 rw_ _ (Kd.R_V V2.out) (Kd.R_reads' V3.out).2.2 (Kd.R_reads' V3.out).2.1 (Kd.R_reads' V4.out).2.2 (Kd.R_reads' V4.out).2.1 (TB.below HT.out B2.out) ((write_f _ _ _ _ _ _ _ _ _ 3000 (by omega)).trans (congrArg some HRW.out))).mono ?_; rintro e3 w3 ⟨v5, rfl, hv5, hb3⟩; obtain ⟨Ad, cd, ed⟩ := Kd.R_slice hv5; subst ed; have V5 := Aside0.mk hv5; have B3 := Aside0.mk (below_step B2.out hb3); clear hv5 hb3))
  clear q0 q1 q2 q3 q4 q5 q6 q7
  have AW := fun (W : World) (hb : Below w.heap.size w W) => shibbolethlaw05_awake.calls 3000 true W (TB.below HT.out hb) (awake_f 3000 (by omega))
  by_cases hz : rw_ = []
  ·subst hz
   simp only [List.length_nil]
   go_wp2_with (go_at_call 38; refine (AW _ B3.out).mono ?_; rintro e4 w4 ⟨rfl, hb4⟩; have B4 := Aside0.mk (below_step B3.out hb4); clear hb4)
   go_ret
   exact ⟨rfl, B4.out⟩
  ·have hr : hright a0_0 a0_1 l0_2 l0_3 l0_4 a0_5 a0_6 a0_7 := by
    by_cases hr : hright a0_0 a0_1 l0_2 l0_3 l0_4 a0_5 a0_6 a0_7
    ·exact hr
    ·have h := HRW.out
     rw [if_neg (fun q => hr q.1)] at h
     exact absurd h.symm hz
   have hrw2 : hbytes a0_0 a0_1 l0_2 l0_3 l0_4 a0_5 a0_6 a0_7 0 = rw_ := by
    have h := HRW.out
    rwa [if_pos ⟨hr, by decide, by decide⟩] at h
   have hn200 := hbytes_len a0_0 a0_1 l0_2 l0_3 l0_4 a0_5 a0_6 a0_7 0 hr
   rw [hrw2] at hn200
   have hpos : 0 < rw_.length := List.length_pos_iff.mpr hz
   have hbt : Bt rw_ := by rw [← hrw2]; exact hbytes_bt hr HB.out.1 HB.out.2.1 HB.out.2.2 (by decide)
   obtain ⟨k, hk⟩ : ∃ k : Nat, a1 % (rw_.length : Int) = (k : Int) := ⟨(a1 % (rw_.length : Int)).toNat, by rw [Int.toNat_of_nonneg (Int.emod_nonneg _ (by omega))]⟩
   have hkn : k < rw_.length := by have := Int.emod_lt_of_pos a1 (show 0 < (rw_.length : Int) by omega); omega
   have hcut := cut_all hr k (by rw [hrw2]; exact hkn)
   rw [hrw2] at hcut
   have e1 : a1.tmod (rw_.length : Int) = (k : Int) := by rw [Int.tmod_eq_emod_of_nonneg h1a]; exact hk
   obtain ⟨i05, hi5, _, hsz5, _⟩ := info_parts Go.Proofs.YtbcleckapamicaaDoor.Hr.info5
   obtain ⟨hs5, hR5, hc5⟩ := print_take_of (P := Tryd.prog) (Value.int .u8) (0 : Int) 22 5 .i64 Tryd.underlying22 hi5 hsz5 Ad cd rw_ (k : Int) (by omega) (by omega) (Kd.R_reads' V5.out).2.1
   simp only [Int.toNat_natCast] at hs5 hR5 hc5
   have hC5 : Kd.C (Kd.int .u8) w3 Ad (rw_.take k).length (rw_.take k) := Kd.C_of_reads (h1 := fun _ => rfl) (hR5 _ (Kd.reads_of_C (Kd.R_reads' V5.out).2.2))
   have RE := read_error w3 Ad cd (rw_.take k) hC5 hc5 (by rw [List.length_take]; omega) (fun x hx => hbt x (List.mem_of_mem_take hx)) 2 hcut
   obtain ⟨tk, htk⟩ : ∃ tk, rw_.take k = tk := ⟨_, rfl⟩
   rw [htk] at hs5 RE
   have d0 : ((rw_.length : Int) == 0) = false := by simp; exact hz
   have d1 : decide (rw_ = []) = false := decide_eq_false hz
   have d2 : decide (rw_.length = 0) = false := by simp; exact hz
   have p1 : (0 : Int) < (rw_.length : Int) := by omega
   have RE' := Aside0.mk RE
   clear RE hr hrw2 hn200 hbt hkn hcut hi5 hsz5 hR5 hc5 hC5 htk
   go_upto_region 7 with (go_at_call 50; refine RE'.out.mono ?_; rintro e5 w5 ⟨rfl, hb5⟩; have B5 := Aside0.mk (below_step B3.out hb5); clear hb5)
   go_wp2_with (go_at_call 38; refine (AW _ (below_alloc B5.out _)).mono ?_; rintro e6 w6 ⟨rfl, hb6⟩; have B6 := Aside0.mk (below_step (below_alloc B5.out _) hb6); clear hb6)
   go_ret
   exact ⟨rfl, B6.out⟩
end Go.Proofs.YtbcleckapamicaaDoor.QHc
namespace Go.Proofs.YtbcleckapamicaaDoor.Opn
open Go.RowKit Go.Proofs.YtbcleckapamicaaDoorW.PrintWords
set_option linter.unusedVariables false
variable {P : Program}
def Opens (P : Program) (t : TypeId) {α : Type} (d : Kd α) (ok : α → Prop) : Prop :=
  ∀ (H : Type) (enc : TypeId × Value → H) (w : World) (base : Nat) (spare : Nat → Bool) (held : Bool) (fuel : Nat) (cs : List Value) (x : DataW H × List MemPlace),
    DataW.trod enc P w base spare held fuel t cs = some x → ∃ a, d.K w a cs ∧ ok a
theorem Opens.int {t : TypeId} {k : IntKind} (ht : P.underlying t = some (.int k)) : Opens P t (Kd.int k) (fun n => (Lit.int k n).wf = true) := by
  intro H enc w base spare held fuel cs x h
  obtain ⟨n, rfl, _, hw⟩ := DataW.trod_int ht h
  exact ⟨n, rfl, hw⟩
theorem Opens.bool {t : TypeId} (ht : P.underlying t = some .bool) : Opens P t Kd.bool (fun _ => True) := by
  intro H enc w base spare held fuel cs x h
  obtain ⟨b, rfl, _⟩ := DataW.trod_bool ht h
  exact ⟨b, rfl, trivial⟩
theorem Opens.slice {t e : TypeId} {α : Type} {d : Kd α} {ok : α → Prop} (ht : P.underlying t = some (.slice e)) (hs : P.cellsOf e = d.sz) (he : Opens P e d ok) :
    Opens P t (Kd.slice e d) (fun xs => xs.length ≤ 9223372036854775807 ∧ ∀ x ∈ xs, ok x) := by
  classical
  intro H enc w base spare held fuel cs x h
  rcases Go.Deep.open_slice ht h with ⟨rfl, _⟩ | ⟨a, len, cap, m, n, D, Pl, rfl, hb, hl, hm, hmm, _, hx⟩
  · exact ⟨[], ⟨none, 0, rfl, by simp, Kd.C_nil d w⟩, by simp, by simp⟩
  · have hlm : len ≤ m := by rw [hmm]; split <;> omega
    have hex : ∀ i, i < len → ∃ p : α, (∃ c, c.length = d.sz ∧ d.K w p c ∧ ∀ j u, c[j]? = some u → w.cell? (a.add (i * d.sz + j)) = some u) ∧ ok p := by
      intro i hi
      obtain ⟨c, hc1, hc2⟩ := hx i (by omega)
      obtain ⟨_, hlen, hcell⟩ := World.cells?_some hc1
      obtain ⟨p, hK, ho⟩ := he H enc w base spare held n c _ hc2
      rw [hs] at hlen hcell
      refine ⟨p, ⟨c, hlen, hK, fun j u hj => ?_⟩, ho⟩
      have hjl : j < d.sz := by
        rcases Nat.lt_or_ge j c.length with h1 | h1
        · omega
        · rw [List.getElem?_eq_none h1] at hj; cases hj
      have := hcell j hjl
      rw [Addr.add_add] at this
      rw [this, hj]
    have hmax : len ≤ 9223372036854775807 := by have := hm; simp only [maxLen] at this; omega
    have hL : ∃ l : List α, l.length = len ∧ ∀ (i : Nat) (p : α), l[i]? = some p → (∃ c, c.length = d.sz ∧ d.K w p c ∧ ∀ j u, c[j]? = some u → w.cell? (a.add (i * d.sz + j)) = some u) ∧ ok p := by
      refine ⟨List.ofFn (fun i : Fin len => Classical.choose (hex i.1 i.2)), by simp, fun i p hp => ?_⟩
      rw [List.getElem?_ofFn] at hp
      split at hp
      · rename_i hi
        obtain rfl := Option.some.inj hp
        exact Classical.choose_spec (hex i hi)
      · cases hp
    obtain ⟨l, hlen, hall⟩ := hL
    refine ⟨l, ⟨some a, cap, by rw [hlen], by omega, hlen ▸ rfl, by omega, fun _ => ⟨a, rfl, fun j p hp => (hall j p hp).1⟩⟩, by omega, fun p hp => ?_⟩
    obtain ⟨i, hi, rfl⟩ := List.mem_iff_getElem.1 hp
    exact (hall i _ (List.getElem?_eq_getElem hi)).2
def OpensF (P : Program) (fs : List Field) (off : Nat) {α : Type} (d : Kd α) (ok : α → Prop) : Prop :=
  ∀ (H : Type) (enc : TypeId × Value → H) (w : World) (base : Nat) (spare : Nat → Bool) (held : Bool) (n : Nat) (cs : List Value), cs.length = off + d.sz →
    (∀ f, f ∈ fs → ∃ y, DataW.trod enc P w base spare held n f.type ((cs.drop f.offset).take (P.cellsOf f.type)) = some y) → ∃ a, d.K w a (cs.drop off) ∧ ok a
theorem OpensF.last {f : Field} {off : Nat} {α : Type} {d : Kd α} {ok : α → Prop} (ho : f.offset = off) (hc : P.cellsOf f.type = d.sz) (h : Opens P f.type d ok) : OpensF P [f] off d ok := by
  intro H enc w base spare held n cs hl hf
  obtain ⟨y, hy⟩ := hf f (List.mem_singleton.2 rfl)
  rw [ho, hc, List.take_of_length_le (by simp; omega)] at hy
  exact h H enc w base spare held n _ _ hy
theorem OpensF.cons {f : Field} {fs : List Field} {off : Nat} {α β : Type} {d : Kd α} {d' : Kd β} {ok : α → Prop} {ok' : β → Prop} (ho : f.offset = off) (hc : P.cellsOf f.type = d.sz) (h : Opens P f.type d ok) (h' : OpensF P fs (off + d.sz) d' ok') :
    OpensF P (f :: fs) off (Kd.pair d d') (fun p => ok p.1 ∧ ok' p.2) := by
  intro H enc w base spare held n cs hl hf
  have hl' : cs.length = off + (d.sz + d'.sz) := hl
  obtain ⟨y, hy⟩ := hf f (List.mem_cons_self ..)
  rw [ho, hc] at hy
  obtain ⟨a, hK, hok⟩ := h H enc w base spare held n _ _ hy
  obtain ⟨b, hK', hok'⟩ := h' H enc w base spare held n cs (by omega) (fun g hg => hf g (List.mem_cons_of_mem _ hg))
  refine ⟨(a, b), ⟨_, _, ?_, hK, hK'⟩, hok, hok'⟩
  rw [← List.drop_drop, List.take_append_drop]
theorem Opens.struct {t : TypeId} {fs : Array Field} {α : Type} {d : Kd α} {ok : α → Prop} (ht : P.underlying t = some (.struct fs)) (hs : P.cellsOf t = d.sz) (h : OpensF P fs.toList 0 d ok) : Opens P t d ok := by
  intro H enc w base spare held fuel cs x hx
  obtain ⟨xs, n, _, _, hl, hlen, hf⟩ := DataW.trod_struct ht hx
  have := h H enc w base spare held n cs (by rw [hl, hs]; omega) (fun f hm => ?_)
  · rwa [List.drop_zero] at this
  · obtain ⟨i, hi, rfl⟩ := List.mem_iff_getElem.1 hm
    have hi' : i < fs.size := by simpa using hi
    have := hf i fs[i] (by simp [hi'])
    refine ⟨xs[i]'(by omega), ?_⟩
    rw [List.getElem?_eq_getElem (show i < xs.length by omega)] at this
    simpa using this
theorem Opens.value {t : TypeId} {α : Type} {d : Kd α} {ok : α → Prop} (h : Opens P t d ok) {H : Type} {enc : TypeId × Value → H} {w : World} {base : Nat} {spare : Nat → Bool} {held : Bool} {v : Value} {x : DataW H} {ps : List MemPlace} (hv : DataW.Trod enc P w base spare held t v x ps) :
    ∃ a, d.K w a v.cells.toList ∧ ok a := by
  obtain ⟨fuel, hf⟩ := hv
  exact h H enc w base spare held fuel _ _ hf
theorem Opens.aggValue {t : TypeId} {fs : Array Field} {α : Type} {d : Kd α} {ok : α → Prop} (h : Opens P t d ok) (ht : P.underlying t = some (.struct fs)) {H : Type} {enc : TypeId × Value → H} {w : World} {base base' : Nat} {spare : Nat → Bool} {held : Bool} {r : Reach} {v : Value} {x : DataW H} {ps : List MemPlace}
    (ho : Value.okWide P w r base' t v) (hv : DataW.Trod enc P w base spare held t v x ps) : ∃ cs a, v = .agg cs ∧ d.K w a cs.toList ∧ ok a := by
  obtain ⟨cs, rfl, _⟩ := Go.WideShapes.okWide_struct ht ho
  obtain ⟨a, hK, hok⟩ := h.value hv
  exact ⟨cs, a, rfl, hK, hok⟩
end Go.Proofs.YtbcleckapamicaaDoor.Opn
namespace Go.Proofs.YtbcleckapamicaaDoor.headerCutPrm
open Go.RowKit Go.Proofs.YtbcleckapamicaaDoorW.PrintWords Go.Proofs.YtbcleckapamicaaDoor.QHc Go.Proofs.YtbcleckapamicaaDoor.Opn
set_option linter.unusedVariables false
def ok3 : Int → Prop := fun n => (Lit.int .i64 n).wf = true
theorem opens_ok3 : Opens Tryd.prog 3 (Kd.int .i64) ok3 := Opens.int Tryd.underlying3
def ok5 : Int → Prop := fun n => (Lit.int .u8 n).wf = true
theorem opens_ok5 : Opens Tryd.prog 5 (Kd.int .u8) ok5 := Opens.int Tryd.underlying5
def ok22 : List (Int) → Prop := fun xs => xs.length ≤ 9223372036854775807 ∧ ∀ x ∈ xs, ok5 x
theorem opens_ok22 : Opens Tryd.prog 22 (Kd.slice 5 (Kd.int .u8)) ok22 := Opens.slice Tryd.underlying22 (by kernel_rfl) opens_ok5
def okT44 : ((Int) × (Int) × (List (Int)) × (List (Int)) × (List (Int)) × (Int) × (Int) × (Int)) → Prop := fun x => ok3 x.1 ∧ ok3 x.2.1 ∧ ok22 x.2.2.1 ∧ ok22 x.2.2.2.1 ∧ ok22 x.2.2.2.2.1 ∧ ok3 x.2.2.2.2.2.1 ∧ ok3 x.2.2.2.2.2.2.1 ∧ ok3 x.2.2.2.2.2.2.2
theorem opens_okT44 : Opens Tryd.prog 44 (Kd.pair (Kd.int .i64) (Kd.pair (Kd.int .i64) (Kd.pair (Kd.slice 5 (Kd.int .u8)) (Kd.pair (Kd.slice 5 (Kd.int .u8)) (Kd.pair (Kd.slice 5 (Kd.int .u8)) (Kd.pair (Kd.int .i64) (Kd.pair (Kd.int .i64) (Kd.int .i64)))))))) okT44 := Opens.struct Tryd.underlying44 (by kernel_rfl) (OpensF.cons rfl (by kernel_rfl) opens_ok3 (OpensF.cons rfl (by kernel_rfl) opens_ok3 (OpensF.cons rfl (by kernel_rfl) opens_ok22 (OpensF.cons rfl (by kernel_rfl) opens_ok22 (OpensF.cons rfl (by kernel_rfl) opens_ok22 (OpensF.cons rfl (by kernel_rfl) opens_ok3 (OpensF.cons rfl (by kernel_rfl) opens_ok3 (OpensF.last rfl (by kernel_rfl) opens_ok3))))))))
def ok76 : Int → Prop := fun n => (Lit.int .u16 n).wf = true
def Pure : Prop := ∀ (x0 : (Int) × (Int) × (List (Int)) × (List (Int)) × (List (Int)) × (Int) × (Int) × (Int)) (x1 : Int), okT44 x0 → ok76 x1 → shibbolethlaw05_HeaderCut.f (x0.1) (x0.2.1) (x0.2.2.1) (x0.2.2.2.1) (x0.2.2.2.2.1) (x0.2.2.2.2.2.1) (x0.2.2.2.2.2.2.1) (x0.2.2.2.2.2.2.2) x1 = some true
end Go.Proofs.YtbcleckapamicaaDoor.headerCutPrm
namespace Go.Proofs.YtbcleckapamicaaDoor.Pure
open Go Go.RowKit Go.Proofs.YtbcleckapamicaaDoor.QHc Go.Proofs.YtbcleckapamicaaDoorW.PrintWords
set_option linter.unusedVariables false
theorem u8b {x : Int} (h : (Lit.int .u8 x).wf = true) : 0 ≤ x ∧ x ≤ 255 := by
  simp [Lit.wf, IntKind.min, IntKind.max, IntKind.signed, IntKind.bits] at h
  omega
theorem u16b {x : Int} (h : (Lit.int .u16 x).wf = true) : 0 ≤ x ∧ x ≤ 65535 := by
  simp [Lit.wf, IntKind.min, IntKind.max, IntKind.signed, IntKind.bits] at h
  omega
theorem HeaderCut : headerCutPrm.Pure := by
  rintro ⟨a0, a1, l2, l3, l4, a5, a6, a7⟩ n ⟨_, _, h2, h3, h4, _⟩ hn
  unfold shibbolethlaw05_HeaderCut.f
  exact if_pos ⟨fun x hx => u8b (h2.2 x hx), fun x hx => u8b (h3.2 x hx), fun x hx => u8b (h4.2 x hx), (u16b hn).1, (u16b hn).2⟩
end Go.Proofs.YtbcleckapamicaaDoor.Pure
namespace Go.Proofs.YtbcleckapamicaaDoor.Tab
open Go.RowKit Go.Proofs.YtbcleckapamicaaDoor.Gv
set_option linter.unusedVariables false
def laid {H : Type} : List (String × DataW H) := [((Rows.headerCutRow.named).getD 0 default, Rows.laid_math_bits_deBruijn32tab), ((Rows.headerCutRow.named).getD 1 default, Rows.laid_math_bits_deBruijn64tab)]
theorem g64 : Tryd.prog.globalNamed ((Rows.headerCutRow.named).getD 1 default) = some 1 := by kernel_rfl
theorem ty64 : (Tryd.prog.globals[1]?).map (·.type) = some 146 := by kernel_rfl
theorem of_laid {W : World} (h : laidMet Tryd.prog laid W) : TB W := by
  have h2 : laidMet Tryd.prog [((Rows.headerCutRow.named).getD 1 default, Lib.tabData .u8 tab64)] W := h.tail
  have ht : Lib.TabIs Tryd.prog W ((Rows.headerCutRow.named).getD 1 default) .u8 tab64 := Lib.tabIs_of_head g64 ty64 Tryd.underlying146 Tryd.underlying5 (by kernel_rfl) (by kernel_rfl) h2
  exact ⟨fun i hi => ht.cell g64 i hi⟩
def tab32 : List Int := [0, 1, 28, 2, 29, 14, 24, 3, 30, 22, 20, 15, 25, 17, 4, 8, 31, 27, 13, 23, 21, 19, 16, 7, 26, 12, 18, 6, 11, 5, 10, 9]
noncomputable def laidWorld (os : Os) : World :=
  let w0 := World.holding Tryd.prog os ⟨#[], #[], []⟩
  { w0 with heap := (w0.heap.modify 0 fun
      | .cells _ t frozen => .cells (tab32.map fun z => Value.int .u8 z).toArray t frozen
      | o => o).modify 1 fun
      | .cells _ t frozen => .cells (tab64.map fun z => Value.int .u8 z).toArray t frozen
      | o => o }
set_option maxRecDepth 100000 in
theorem laidWorld_met (os : Os) (args : Array Value) : laidMet Tryd.prog laid ((laidWorld os).forCall (fun _ _ => 0) ⟨#[], args, []⟩).memory :=
  laidMet_of_run' 8 (by kernel_rfl) (by kernel_rfl)
end Go.Proofs.YtbcleckapamicaaDoor.Tab
