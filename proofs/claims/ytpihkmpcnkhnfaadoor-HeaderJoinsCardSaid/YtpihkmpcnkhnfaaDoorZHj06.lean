/- A part of the proof of the law HeaderJoins: QHex3. -/
import Derived.Test.YtpihkmpcnkhnfaaDoorZHj03
import Derived.Test.YtpihkmpcnkhnfaaDoorZHj05
import Derived.Test.YtpihkmpcnkhnfaaDoorZHj02
namespace Go.Proofs.YtpihkmpcnkhnfaaDoor.QHe
open Go.RowKit Go.Proofs.YtpihkmpcnkhnfaaDoorW.PrintWords Go.Proofs.YtpihkmpcnkhnfaaDoorW.PrintLast Go.Proofs.YtpihkmpcnkhnfaaDoorW.PrintMore
attribute [local go_sem] max2_int min2_int max_two min_two max_three min_three max_four min_four
set_option linter.unusedVariables false
set_option linter.unusedSimpArgs false
open Go.Proofs.YtpihkmpcnkhnfaaDoor.Gv (TB TB.below TB.alloc TB.drew TB.drewN)
set_option hygiene false
local macro "og60_" : term => `(.cells #[.int .i64 a0_0, .int .i64 a0_1, .slice A0_2 l0_2.length c0_2, .slice A0_3 l0_3.length c0_3, .slice A0_4 l0_4.length c0_4, .int .i64 a0_5, .int .i64 a0_6, .int .i64 a0_7] 33 (0, 0))
local macro "pg60_" : term => `((if t181 = true then ((shibbolethlaw05_same.f k l0_4 l1_4).bind fun t182 => (if t182 = true then (if a0_5 = a1_5 then (if a0_6 = a1_6 then (some (a0_7 == a1_7)) else (some false)) else (some false)) else (some false))) else (some false)))
local macro "pg61_" : term => `((if (t170.length : Int) = 11 then (if 0 < (t170.length : Int) then (if (rd t170 0) = 69 then (if 9 < (t170.length : Int) then (if (rd t170 9) = 1 then (if 10 < (t170.length : Int) then (some ((rd t170 10) == 2)) else (none)) else (some false)) else (none)) else (some false)) else (none)) else (some false)))
local macro "pg62_" : term => `((by rw [hg]; exact (below_size (by qb1_ GE178)) : w.heap.size ≤ gb179))
local macro "pg63_" : term => `((by rw [hg]; exact (below_size (by qc0_)) : w.heap.size ≤ gb178))
local macro "pg64_" : term => `((by rw [hg]; exact Nat.ne_of_lt (blk_lt (g := gb178) (o := (og60_)) (by qk_; exact BK178.out)) : gb178 ≠ gb179))
local macro "pg65_" : term => `((by rw [hg]; exact Nat.ne_of_gt (blk_lt (g := gb178) (o := (og60_)) (by qk_; exact BK178.out)) : gb179 ≠ gb178))
local macro "pg66_" : term => `((by first | (with_reducible assumption) | assumption))
local macro "pg67_" : term => `((by (try simp only [List.map_toArray, List.map_cons, List.map_nil]); first | done | rfl | (simp only [List.length_drop, List.length_take]; rfl)))
local macro "pg68_" : term => `((shibbolethlaw05_same.calls k _ _ l0_2 _ _ l1_2 true _ ?side1 ?side2 ?side3 ?side4 A5.out))
local macro "pg69_" : term => `((by rw [hg]; exact (below_size (by qc0_)) : w.heap.size ≤ gb183))
local macro "pg610_" : term => `((shibbolethlaw05_same.calls k _ _ l0_3 _ _ l1_3 true _ ?side1 ?side2 ?side3 ?side4 A7.out))
local macro "pg611_" : term => `((if t180 = true then ((shibbolethlaw05_same.f k l0_3 l1_3).bind fun t181 => (pg60_)) else (some false)))
local macro "pg612_" : term => `((if a0_5 = a1_5 then (if a0_6 = a1_6 then (some (a0_7 == a1_7)) else (some false)) else (some false)))
local macro "pg613_" : term => `((shibbolethlaw05_same.calls k _ _ l0_4 _ _ l1_4 true _ ?side1 ?side2 ?side3 ?side4 A9.out))
local macro "lg60_" : tactic => `(tactic| (exact ⟨by first | rfl | (simp [errW_none, errW_some] <;> rfl) | (simp [*, errW_none, errW_some] <;> rfl), by qc0_⟩))
local macro "lg61_" : tactic => `(tactic| (exact ⟨by first | rfl | (simp; done) | (simp [*]; done), by repeat (first | exact Drawn0.refl _ | apply Drawn0.step)⟩))
local macro "lg62_" : tactic => `(tactic| (exact ⟨by first | rfl | (simp [errW_none, errW_some] <;> rfl) | (simp [*, errW_none, errW_some] <;> rfl), by qb2_ GE178 GE179⟩))
local macro "lg63_" : tactic => `(tactic| (have H1 : (some false) = some r := by rw [if_neg (show ¬ (false = true) by decide)] at H; exact H))
local macro "lg64_" : tactic => `(tactic| (exact ⟨by first | rfl | (simp [errW_none, errW_some] <;> rfl) | (simp [*, errW_none, errW_some] <;> rfl), by qb1_ GE183⟩))
set_option hygiene true
def shibbolethlaw05_awake.f (k : Nat)  : Option (Bool) := if 8 ≤ 281474976710656 then ((header_Write.f k 3 0 (List.replicate 8 0) ([] : List Int) ([] : List Int) 1 258 2 5).bind fun t170 => (pg61_)) else (none)
theorem shibbolethlaw05_awake.mono : ∀ k, LeO (shibbolethlaw05_awake.f k ) (shibbolethlaw05_awake.f (k + 1) ) := by
 intro  k
 unfold shibbolethlaw05_awake.f
 repeat' first
   | (with_reducible exact header_Write.mono _ _ _ _ _ _ _ _ _ _)
   | (with_reducible exact LeO.refl _)
   | (with_reducible exact LeO.none _)
   | (with_reducible refine LeO.ite ?_ ?_)
   | (with_reducible refine LeO.bind ?_ (fun _ => ?_))
   | exact header_Write.mono _ _ _ _ _ _ _ _ _ _
   | exact LeO.none _
   | refine LeO.ite ?_ ?_
   | refine LeO.bind ?_ (fun _ => ?_)
set_option maxHeartbeats 8000000 in
set_option maxRecDepth 100000 in
theorem shibbolethlaw05_awake.calls (k : Nat)  (r : Bool) (w : World) (ht : TB w) (h : shibbolethlaw05_awake.f k  = some r) :
  Calls Tryd.prog 7 #[] w fun e w' => e = .returned (.bool r) ∧ Below w.heap.size w w' := by
 have HT := Aside0.mk ht
 clear ht
 have hu33 := Tryd.underlying33
 have HB := Aside0.mk (Below.refl w.heap.size w)
 have H : (if 8 ≤ 281474976710656 then ((header_Write.f k 3 0 (List.replicate 8 0) ([] : List Int) ([] : List Int) 1 258 2 5).bind fun t170 => (pg61_)) else (none)) = some r := h
 clear h
 by_cases c1 : 8 ≤ 281474976710656
 ·rw [if_pos c1] at H
  have c1b0 := eq_true c1
  have c1b1 : decide (8 ≤ 281474976710656) = true := decide_eq_true c1
  clear c1
  obtain ⟨y167, hy167⟩ : ∃ y_ : List Int, y_ = (List.replicate 8 0) := ⟨_, rfl⟩
  replace H : ((header_Write.f k 3 0 y167 ([] : List Int) ([] : List Int) 1 258 2 5).bind fun t170 => (pg61_)) = some r := by first | (rw [hy167]; with_reducible exact H) | (have H2_ := (Option.bind_some _ _).symm.trans H; rw [hy167]; with_reducible exact H2_) | (have H2_ := (Option.bind_some _ _).symm.trans H; with_reducible exact H2_) | with_reducible exact H | (rw [hy167]; exact H) | exact H
  have Ny167 := Aside0.mk hy167
  clear hy167
  replace H := Option.bind_eq_some_iff.mp H
  obtain ⟨t170, A20, H⟩ := H
  replace H : (pg61_) = some r := H
  have A2 := Aside0.mk A20
  clear A20
  by_cases c3 : (t170.length : Int) = 11
  ·rw [if_pos c3] at H
   have c3b0 : ((t170.length : Int) == 11) = true := beq_iff_eq.mpr c3
   have c3b1 : ((t170.length : Int) != 11) = false := bne_eq_false_iff_eq.mpr c3
   clear c3
   by_cases c4 : 0 < (t170.length : Int)
   ·rw [if_pos c4] at H
    have c4b0 : decide (0 < (t170.length : Int)) = true := decide_eq_true c4
    have c4b1 : decide (0 < t170.length) = true := decide_eq_true (by omega)
    clear c4
    by_cases c5 : (rd t170 0) = 69
    ·rw [if_pos c5] at H
     have c5b0 : ((rd t170 0) == 69) = true := beq_iff_eq.mpr c5
     have c5b1 : ((rd t170 0) != 69) = false := bne_eq_false_iff_eq.mpr c5
     clear c5
     by_cases c6 : 9 < (t170.length : Int)
     ·rw [if_pos c6] at H
      have c6b0 : decide (9 < (t170.length : Int)) = true := decide_eq_true c6
      have c6b1 : decide (9 < t170.length) = true := decide_eq_true (by omega)
      clear c6
      by_cases c7 : (rd t170 9) = 1
      ·rw [if_pos c7] at H
       have c7b0 : ((rd t170 9) == 1) = true := beq_iff_eq.mpr c7
       have c7b1 : ((rd t170 9) != 1) = false := bne_eq_false_iff_eq.mpr c7
       clear c7
       by_cases c8 : 10 < (t170.length : Int)
       ·rw [if_pos c8] at H
        have c8b0 : decide (10 < (t170.length : Int)) = true := decide_eq_true c8
        have c8b1 : decide (10 < t170.length) = true := decide_eq_true (by omega)
        clear c8
        obtain rfl := Option.some.inj H
        go_enter Tryd.func7, Tryd.ntmps7
        go_wp2_with (first | ((with_reducible refine gate_dst (N := 2) rfl ?_); refine Kd.R_make (Kd.int .u8) _ 5 rfl (N := 2) rfl 22 _ _ rfl 8 rfl rfl Tryd.underlying22 (.int .u8 0) 1 info5 rfl (by decide) (by omega) 0 (ok := fun _ => True) (okp := fun _ => True) rfl (fun _ hk => hk) trivial (by omega) (by omega) (Below.refl _ _) (Nat.le_refl _) ?_; intro v168 w9 ho10 hb hg_ hnew_; clear hg_ hnew_; (first | rw [← Ny167.out] at ho10 | (simp only [Int.reduceToNat] at ho10; rw [← Ny167.out] at ho10)); have n0_ := Aside0.mk (Kd.R_lower ho10 (below_size (by qc0_))); have n1_ := Aside0.mk (below_step (by qc0_) hb); clear HB; have HO169 := n0_; have HB := n1_; clear n0_ n1_; clear hb ho10; obtain ⟨Ao11, co11, eo11⟩ := Kd.R_slice HO169.out; subst eo11) | ((with_reducible refine gate_callee (f := 11) rfl ?_); refine goesL_ (some 4) rfl rfl Tryd.func11 (by kernel_rfl) rfl #[.agg #[.int .i64 3, .int .i64 0, .slice Ao11 y167.length co11, .slice none 0 0, .slice none 0 0, .int .i64 1, .int .i64 258, .int .i64 2], .int .i64 5] rfl (pg67_) ?_; (refine (header_Write.calls k 3 0 (fun k_ => some k_ = (.slice Ao11 y167.length co11 : Value).ownBlock) _ _ y167 _ _ ([] : List Int) _ _ ([] : List Int) 1 258 2 5 t170 _ ?side1 ?side2 ?side3 ?side4 ?side5 ?sideT A2.out).mono ?_); (case sideT => repeat (first | exact HT.out | exact TB.below HT.out HB.out | exact TB.below HT.out HBW.out | (with_reducible refine TB.alloc ?_ _) | (with_reducible refine TB.drewN ?_ _) | (with_reducible refine TB.drew ?_))); (case side1 => exact Kd.R_V (Kd.R_tight rfl (HO169.out))); (case side2 => exact Kd.C_nil _ _); (case side3 => exact Nat.le_refl _); (case side4 => exact Kd.C_nil _ _); (case side5 => exact Nat.le_refl _); rintro e w12 ⟨v171, rfl, ho0, hb⟩; refine ⟨_, rfl, ?_⟩; have n0_ := Aside0.mk (Kd.R_elder' (by qR_; exact HO169.out) (Kd.R_base ho0) hb); have n1_ := Aside0.mk (Kd.R_lower (Kd.R_new' (Kd.R_mono (ok' := fun k_ => True) ho0 (fun _ hk_ => trivial)) (Kd.R_lt (by qR_; exact HO169.out))) (below_size (by qc0_))); have n2_ := Aside0.mk (below_step (by qc0_) hb); clear HO169; clear HB; have HO169 := n0_; have HO172 := n1_; have HB := n2_; clear n0_ n1_ n2_; (try clear hb); (try clear hb2); (try clear hk); (try clear hi); (try clear ho0); obtain ⟨Ao13, co13, eo13⟩ := Kd.R_slice HO172.out; subst eo13; have p173 : 0 ≤ (0 : Int) := (by omega); have q173 : 0 < (t170.length : Int) := of_decide_eq_true (pg66_); obtain ⟨ad173, e173, hx173_0⟩ := Kd.at_int (Kd.R_reads' HO172.out).2.2 0 p173 q173; cases e173; have qi173 : (0 < t170.length) = True := eq_true (by omega); (try rw [show ((0 : Int)).toNat = 0 from rfl] at hx173_0); (try rw [Addr.add_zero'] at hx173_0); replace p173 := eq_true p173; replace q173 := eq_true q173; have p174 : 0 ≤ (9 : Int) := (by omega); have q174 : 9 < (t170.length : Int) := of_decide_eq_true (pg66_); obtain ⟨ad174, e174, hx174_0⟩ := Kd.at_int (Kd.R_reads' HO172.out).2.2 9 p174 q174; obtain rfl : ad173 = ad174 := (by injection e174); (try simp only [show (9 : Int).toNat = 9 from rfl, Nat.reduceMul, Nat.reduceEqDiff, Go.Addr.add, ↓reduceIte] at hx174_0); have qi174 : (9 < t170.length) = True := eq_true (by omega); (try rw [show ((9 : Int)).toNat = 9 from rfl] at hx174_0); replace p174 := eq_true p174; replace q174 := eq_true q174; have p175 : 0 ≤ (10 : Int) := (by omega); have q175 : 10 < (t170.length : Int) := of_decide_eq_true (pg66_); obtain ⟨ad175, e175, hx175_0⟩ := Kd.at_int (Kd.R_reads' HO172.out).2.2 10 p175 q175; obtain rfl : ad173 = ad175 := (by injection e175); (try simp only [show (10 : Int).toNat = 10 from rfl, Nat.reduceMul, Nat.reduceEqDiff, Go.Addr.add, ↓reduceIte] at hx175_0); have qi175 : (10 < t170.length) = True := eq_true (by omega); (try rw [show ((10 : Int)).toNat = 10 from rfl] at hx175_0); replace p175 := eq_true p175; replace q175 := eq_true q175))
        go_ret
        lg60_
       ·rw [if_neg c8] at H
        exact absurd H (by simp)
      ·rw [if_neg c7] at H
       have c7b0 : ((rd t170 9) == 1) = false := beq_eq_false_iff_ne.mpr c7
       have c7b1 : ((rd t170 9) != 1) = true := bne_iff_ne.mpr c7
       obtain rfl := Option.some.inj H
       go_enter Tryd.func7, Tryd.ntmps7
       go_wp2_with (first | ((with_reducible refine gate_dst (N := 2) rfl ?_); refine Kd.R_make (Kd.int .u8) _ 5 rfl (N := 2) rfl 22 _ _ rfl 8 rfl rfl Tryd.underlying22 (.int .u8 0) 1 info5 rfl (by decide) (by omega) 0 (ok := fun _ => True) (okp := fun _ => True) rfl (fun _ hk => hk) trivial (by omega) (by omega) (Below.refl _ _) (Nat.le_refl _) ?_; intro v168 w14 ho15 hb hg_ hnew_; clear hg_ hnew_; (first | rw [← Ny167.out] at ho15 | (simp only [Int.reduceToNat] at ho15; rw [← Ny167.out] at ho15)); have n0_ := Aside0.mk (Kd.R_lower ho15 (below_size (by qc0_))); have n1_ := Aside0.mk (below_step (by qc0_) hb); clear HB; have HO169 := n0_; have HB := n1_; clear n0_ n1_; clear hb ho15; obtain ⟨Ao16, co16, eo16⟩ := Kd.R_slice HO169.out; subst eo16) | ((with_reducible refine gate_callee (f := 11) rfl ?_); refine goesL_ (some 4) rfl rfl Tryd.func11 (by kernel_rfl) rfl #[.agg #[.int .i64 3, .int .i64 0, .slice Ao16 y167.length co16, .slice none 0 0, .slice none 0 0, .int .i64 1, .int .i64 258, .int .i64 2], .int .i64 5] rfl (pg67_) ?_; (refine (header_Write.calls k 3 0 (fun k_ => some k_ = (.slice Ao16 y167.length co16 : Value).ownBlock) _ _ y167 _ _ ([] : List Int) _ _ ([] : List Int) 1 258 2 5 t170 _ ?side1 ?side2 ?side3 ?side4 ?side5 ?sideT A2.out).mono ?_); (case sideT => repeat (first | exact HT.out | exact TB.below HT.out HB.out | exact TB.below HT.out HBW.out | (with_reducible refine TB.alloc ?_ _) | (with_reducible refine TB.drewN ?_ _) | (with_reducible refine TB.drew ?_))); (case side1 => exact Kd.R_V (Kd.R_tight rfl (HO169.out))); (case side2 => exact Kd.C_nil _ _); (case side3 => exact Nat.le_refl _); (case side4 => exact Kd.C_nil _ _); (case side5 => exact Nat.le_refl _); rintro e w17 ⟨v171, rfl, ho0, hb⟩; refine ⟨_, rfl, ?_⟩; have n0_ := Aside0.mk (Kd.R_elder' (by qR_; exact HO169.out) (Kd.R_base ho0) hb); have n1_ := Aside0.mk (Kd.R_lower (Kd.R_new' (Kd.R_mono (ok' := fun k_ => True) ho0 (fun _ hk_ => trivial)) (Kd.R_lt (by qR_; exact HO169.out))) (below_size (by qc0_))); have n2_ := Aside0.mk (below_step (by qc0_) hb); clear HO169; clear HB; have HO169 := n0_; have HO172 := n1_; have HB := n2_; clear n0_ n1_ n2_; (try clear hb); (try clear hb2); (try clear hk); (try clear hi); (try clear ho0); obtain ⟨Ao18, co18, eo18⟩ := Kd.R_slice HO172.out; subst eo18; have p173 : 0 ≤ (0 : Int) := (by omega); have q173 : 0 < (t170.length : Int) := of_decide_eq_true (pg66_); obtain ⟨ad173, e173, hx173_0⟩ := Kd.at_int (Kd.R_reads' HO172.out).2.2 0 p173 q173; cases e173; have qi173 : (0 < t170.length) = True := eq_true (by omega); (try rw [show ((0 : Int)).toNat = 0 from rfl] at hx173_0); (try rw [Addr.add_zero'] at hx173_0); replace p173 := eq_true p173; replace q173 := eq_true q173; have p174 : 0 ≤ (9 : Int) := (by omega); have q174 : 9 < (t170.length : Int) := of_decide_eq_true (pg66_); obtain ⟨ad174, e174, hx174_0⟩ := Kd.at_int (Kd.R_reads' HO172.out).2.2 9 p174 q174; obtain rfl : ad173 = ad174 := (by injection e174); (try simp only [show (9 : Int).toNat = 9 from rfl, Nat.reduceMul, Nat.reduceEqDiff, Go.Addr.add, ↓reduceIte] at hx174_0); have qi174 : (9 < t170.length) = True := eq_true (by omega); (try rw [show ((9 : Int)).toNat = 9 from rfl] at hx174_0); replace p174 := eq_true p174; replace q174 := eq_true q174))
       go_ret
       lg60_
     ·rw [if_neg c6] at H
      exact absurd H (by simp)
    ·rw [if_neg c5] at H
     have c5b0 : ((rd t170 0) == 69) = false := beq_eq_false_iff_ne.mpr c5
     have c5b1 : ((rd t170 0) != 69) = true := bne_iff_ne.mpr c5
     obtain rfl := Option.some.inj H
     go_enter Tryd.func7, Tryd.ntmps7
     go_wp2_with (first | ((with_reducible refine gate_dst (N := 2) rfl ?_); refine Kd.R_make (Kd.int .u8) _ 5 rfl (N := 2) rfl 22 _ _ rfl 8 rfl rfl Tryd.underlying22 (.int .u8 0) 1 info5 rfl (by decide) (by omega) 0 (ok := fun _ => True) (okp := fun _ => True) rfl (fun _ hk => hk) trivial (by omega) (by omega) (Below.refl _ _) (Nat.le_refl _) ?_; intro v168 w19 ho20 hb hg_ hnew_; clear hg_ hnew_; (first | rw [← Ny167.out] at ho20 | (simp only [Int.reduceToNat] at ho20; rw [← Ny167.out] at ho20)); have n0_ := Aside0.mk (Kd.R_lower ho20 (below_size (by qc0_))); have n1_ := Aside0.mk (below_step (by qc0_) hb); clear HB; have HO169 := n0_; have HB := n1_; clear n0_ n1_; clear hb ho20; obtain ⟨Ao21, co21, eo21⟩ := Kd.R_slice HO169.out; subst eo21) | ((with_reducible refine gate_callee (f := 11) rfl ?_); refine goesL_ (some 4) rfl rfl Tryd.func11 (by kernel_rfl) rfl #[.agg #[.int .i64 3, .int .i64 0, .slice Ao21 y167.length co21, .slice none 0 0, .slice none 0 0, .int .i64 1, .int .i64 258, .int .i64 2], .int .i64 5] rfl (pg67_) ?_; (refine (header_Write.calls k 3 0 (fun k_ => some k_ = (.slice Ao21 y167.length co21 : Value).ownBlock) _ _ y167 _ _ ([] : List Int) _ _ ([] : List Int) 1 258 2 5 t170 _ ?side1 ?side2 ?side3 ?side4 ?side5 ?sideT A2.out).mono ?_); (case sideT => repeat (first | exact HT.out | exact TB.below HT.out HB.out | exact TB.below HT.out HBW.out | (with_reducible refine TB.alloc ?_ _) | (with_reducible refine TB.drewN ?_ _) | (with_reducible refine TB.drew ?_))); (case side1 => exact Kd.R_V (Kd.R_tight rfl (HO169.out))); (case side2 => exact Kd.C_nil _ _); (case side3 => exact Nat.le_refl _); (case side4 => exact Kd.C_nil _ _); (case side5 => exact Nat.le_refl _); rintro e w22 ⟨v171, rfl, ho0, hb⟩; refine ⟨_, rfl, ?_⟩; have n0_ := Aside0.mk (Kd.R_elder' (by qR_; exact HO169.out) (Kd.R_base ho0) hb); have n1_ := Aside0.mk (Kd.R_lower (Kd.R_new' (Kd.R_mono (ok' := fun k_ => True) ho0 (fun _ hk_ => trivial)) (Kd.R_lt (by qR_; exact HO169.out))) (below_size (by qc0_))); have n2_ := Aside0.mk (below_step (by qc0_) hb); clear HO169; clear HB; have HO169 := n0_; have HO172 := n1_; have HB := n2_; clear n0_ n1_ n2_; (try clear hb); (try clear hb2); (try clear hk); (try clear hi); (try clear ho0); obtain ⟨Ao23, co23, eo23⟩ := Kd.R_slice HO172.out; subst eo23; have p173 : 0 ≤ (0 : Int) := (by omega); have q173 : 0 < (t170.length : Int) := of_decide_eq_true (pg66_); obtain ⟨ad173, e173, hx173_0⟩ := Kd.at_int (Kd.R_reads' HO172.out).2.2 0 p173 q173; cases e173; have qi173 : (0 < t170.length) = True := eq_true (by omega); (try rw [show ((0 : Int)).toNat = 0 from rfl] at hx173_0); (try rw [Addr.add_zero'] at hx173_0); replace p173 := eq_true p173; replace q173 := eq_true q173))
     go_ret
     lg60_
   ·rw [if_neg c4] at H
    exact absurd H (by simp)
  ·rw [if_neg c3] at H
   have c3b0 : ((t170.length : Int) == 11) = false := beq_eq_false_iff_ne.mpr c3
   have c3b1 : ((t170.length : Int) != 11) = true := bne_iff_ne.mpr c3
   obtain rfl := Option.some.inj H
   go_enter Tryd.func7, Tryd.ntmps7
   go_wp2_with (first | ((with_reducible refine gate_dst (N := 2) rfl ?_); refine Kd.R_make (Kd.int .u8) _ 5 rfl (N := 2) rfl 22 _ _ rfl 8 rfl rfl Tryd.underlying22 (.int .u8 0) 1 info5 rfl (by decide) (by omega) 0 (ok := fun _ => True) (okp := fun _ => True) rfl (fun _ hk => hk) trivial (by omega) (by omega) (Below.refl _ _) (Nat.le_refl _) ?_; intro v168 w24 ho25 hb hg_ hnew_; clear hg_ hnew_; (first | rw [← Ny167.out] at ho25 | (simp only [Int.reduceToNat] at ho25; rw [← Ny167.out] at ho25)); have n0_ := Aside0.mk (Kd.R_lower ho25 (below_size (by qc0_))); have n1_ := Aside0.mk (below_step (by qc0_) hb); clear HB; have HO169 := n0_; have HB := n1_; clear n0_ n1_; clear hb ho25; obtain ⟨Ao26, co26, eo26⟩ := Kd.R_slice HO169.out; subst eo26) | ((with_reducible refine gate_callee (f := 11) rfl ?_); refine goesL_ (some 4) rfl rfl Tryd.func11 (by kernel_rfl) rfl #[.agg #[.int .i64 3, .int .i64 0, .slice Ao26 y167.length co26, .slice none 0 0, .slice none 0 0, .int .i64 1, .int .i64 258, .int .i64 2], .int .i64 5] rfl (pg67_) ?_; (refine (header_Write.calls k 3 0 (fun k_ => some k_ = (.slice Ao26 y167.length co26 : Value).ownBlock) _ _ y167 _ _ ([] : List Int) _ _ ([] : List Int) 1 258 2 5 t170 _ ?side1 ?side2 ?side3 ?side4 ?side5 ?sideT A2.out).mono ?_); (case sideT => repeat (first | exact HT.out | exact TB.below HT.out HB.out | exact TB.below HT.out HBW.out | (with_reducible refine TB.alloc ?_ _) | (with_reducible refine TB.drewN ?_ _) | (with_reducible refine TB.drew ?_))); (case side1 => exact Kd.R_V (Kd.R_tight rfl (HO169.out))); (case side2 => exact Kd.C_nil _ _); (case side3 => exact Nat.le_refl _); (case side4 => exact Kd.C_nil _ _); (case side5 => exact Nat.le_refl _); rintro e w27 ⟨v171, rfl, ho0, hb⟩; refine ⟨_, rfl, ?_⟩; have n0_ := Aside0.mk (Kd.R_elder' (by qR_; exact HO169.out) (Kd.R_base ho0) hb); have n1_ := Aside0.mk (Kd.R_lower (Kd.R_new' (Kd.R_mono (ok' := fun k_ => True) ho0 (fun _ hk_ => trivial)) (Kd.R_lt (by qR_; exact HO169.out))) (below_size (by qc0_))); have n2_ := Aside0.mk (below_step (by qc0_) hb); clear HO169; clear HB; have HO169 := n0_; have HO172 := n1_; have HB := n2_; clear n0_ n1_ n2_; (try clear hb); (try clear hb2); (try clear hk); (try clear hi); (try clear ho0); obtain ⟨Ao28, co28, eo28⟩ := Kd.R_slice HO172.out; subst eo28))
   go_ret
   lg60_
 ·rw [if_neg c1] at H
  exact absurd H (by simp)
def shibbolethlaw05_same.l0 : Nat → List Int → List Int → Int → Option (Bool)
 | 0, _, _, _ => none
 | k + 1, x0, x1, x5 => if x5 < (x0.length : Int) then (if 0 ≤ x5 then (if x5 < (x1.length : Int) then (if (rd x0 x5) = (rd x1 x5) then (shibbolethlaw05_same.l0 k x0 x1 (wrap64 (x5 + 1))) else (some false)) else (none)) else (none)) else (some true)
def shibbolethlaw05_same.f (k : Nat) (l0 : List Int) (l1 : List Int) : Option (Bool) := if (l0.length : Int) = (l1.length : Int) then (shibbolethlaw05_same.l0 k l0 l1 0) else (some false)
theorem shibbolethlaw05_same.mono_l : ∀ k, (∀ y0 y1 y2, LeO (shibbolethlaw05_same.l0 k y0 y1 y2) (shibbolethlaw05_same.l0 (k + 1) y0 y1 y2))
 | 0 => fun _ _ _ r h => by simp [shibbolethlaw05_same.l0] at h
 | k + 1 => by
  have ih0 := shibbolethlaw05_same.mono_l k
  ·intro y0 y1 y2
   unfold shibbolethlaw05_same.l0
   repeat' first
   | (with_reducible exact ih0 _ _ _)
   | (with_reducible exact LeO.refl _)
   | (with_reducible exact LeO.none _)
   | (with_reducible refine LeO.ite ?_ ?_)
   | (with_reducible refine LeO.bind ?_ (fun _ => ?_))
   | exact ih0 _ _ _
   | exact LeO.none _
   | refine LeO.ite ?_ ?_
   | refine LeO.bind ?_ (fun _ => ?_)
theorem shibbolethlaw05_same.mono : ∀ a0 a1 k, LeO (shibbolethlaw05_same.f k a0 a1) (shibbolethlaw05_same.f (k + 1) a0 a1) := by
 intro a0 a1 k
 have ih0 := shibbolethlaw05_same.mono_l k
 unfold shibbolethlaw05_same.f
 repeat' first
   | (with_reducible exact ih0 _ _ _)
   | (with_reducible exact LeO.refl _)
   | (with_reducible exact LeO.none _)
   | (with_reducible refine LeO.ite ?_ ?_)
   | (with_reducible refine LeO.bind ?_ (fun _ => ?_))
   | exact ih0 _ _ _
   | exact LeO.none _
   | refine LeO.ite ?_ ?_
   | refine LeO.bind ?_ (fun _ => ?_)
set_option maxHeartbeats 8000000 in
set_option maxRecDepth 100000 in
theorem shibbolethlaw05_same.calls (k : Nat) (A0 : Option Addr) (c0 : Nat) (l0 : List Int) (A1 : Option Addr) (c1 : Nat) (l1 : List Int) (r : Bool) (w : World) (hr0 : Kd.C (Kd.int .u8) w A0 l0.length l0) (hc0 : l0.length ≤ c0) (hr1 : Kd.C (Kd.int .u8) w A1 l1.length l1) (hc1 : l1.length ≤ c1) (h : shibbolethlaw05_same.f k l0 l1 = some r) :
  Calls Tryd.prog 9 #[.slice A0 l0.length c0, .slice A1 l1.length c1] w fun e w' => e = .returned (.bool r) ∧ Drawn0 w w' := by
 have HR0 := Aside0.mk hr0
 have HC0 := Aside0.mk hc0
 clear hr0 hc0
 have HR1 := Aside0.mk hr1
 have HC1 := Aside0.mk hc1
 clear hr1 hc1
 have H : (if (l0.length : Int) = (l1.length : Int) then (shibbolethlaw05_same.l0 k l0 l1 0) else (some false)) = some r := h
 clear h
 by_cases c3 : (l0.length : Int) = (l1.length : Int)
 ·rw [if_pos c3] at H
  have c3b0 : ((l0.length : Int) == (l1.length : Int)) = true := beq_iff_eq.mpr c3
  have c3b1 : ((l0.length : Int) != (l1.length : Int)) = false := bne_eq_false_iff_eq.mpr c3
  have c3b2 : (l0.length == l1.length) = true := by first | simpa using c3 | (simp at c3 ⊢; omega)
  clear c3
  have H' := Aside0.mk H
  clear H
  go_enter Tryd.func9, Tryd.ntmps9
  go_wp2
  repeat (go_quiet (fail); try go_wp2)
  go_loopg [5] k (fun kq v5 w' => ∃ (x5_1 : Int), v5 = .int .i64 x5_1 ∧ Aside0 (shibbolethlaw05_same.l0 kq l0 l1 x5_1 = some r) ∧ Aside0 (kq ≤ k) ∧ Drawn0 w w')
  case atStart => exact ⟨(0), (by first | rfl | (simp; done) | (simp [*]; done)), H', ⟨Nat.le_refl _⟩, by repeat (first | exact Drawn0.refl _ | apply Drawn0.step)⟩
  case round =>
   clear H'
   try clear c1
   try clear p2
   try clear c3
   try clear c3b0
   try clear c3b1
   try clear c3b2
   obtain ⟨x5_1, rfl, HA, HK1, ⟨m1, rfl⟩⟩ := hrel
   cases gk with
   | zero => exact absurd HA.out (by simp [shibbolethlaw05_same.l0])
   | succ k1 =>
    have H := HA.out
    clear HA
    simp only [shibbolethlaw05_same.l0] at H
    by_cases c4 : x5_1 < (l0.length : Int)
    ·rw [if_pos c4] at H
     have c4b0 : decide (x5_1 < (l0.length : Int)) = true := decide_eq_true c4
     clear c4
     by_cases c5 : 0 ≤ x5_1
     ·rw [if_pos c5] at H
      have c5b0 : decide (0 ≤ x5_1) = true := decide_eq_true c5
      clear c5
      by_cases c6 : x5_1 < (l1.length : Int)
      ·rw [if_pos c6] at H
       have c6b0 : decide (x5_1 < (l1.length : Int)) = true := decide_eq_true c6
       clear c6
       by_cases c7 : (rd l0 x5_1) = (rd l1 x5_1)
       ·rw [if_pos c7] at H
        have c7b0 : ((rd l0 x5_1) == (rd l1 x5_1)) = true := beq_iff_eq.mpr c7
        have c7b1 : ((rd l0 x5_1) != (rd l1 x5_1)) = false := bne_eq_false_iff_eq.mpr c7
        clear c7
        have H' := Aside0.mk H
        clear H
        have p176 : 0 ≤ (x5_1 : Int) := of_decide_eq_true (pg66_)
        have q176 : x5_1 < (l0.length : Int) := of_decide_eq_true (pg66_)
        obtain ⟨ad176, e176, hx176_0⟩ := Kd.at_int HR0.out x5_1 p176 q176
        (try simp only [Int.reduceToNat] at hx176_0)
        cases e176
        replace p176 := eq_true p176
        replace q176 := eq_true q176
        have p177 : 0 ≤ (x5_1 : Int) := of_decide_eq_true (pg66_)
        have q177 : x5_1 < (l1.length : Int) := of_decide_eq_true (pg66_)
        obtain ⟨ad177, e177, hx177_0⟩ := Kd.at_int HR1.out x5_1 p177 q177
        (try simp only [Int.reduceToNat] at hx177_0)
        cases e177
        replace p177 := eq_true p177
        replace q177 := eq_true q177
        go_wp2
        repeat (go_quiet (fail); try go_wp2)
        go_roundg k1
        case measure => have := HK1.out; omega
        case rel => exact ⟨(wrap64 (x5_1 + 1)), (by first | rfl | (simp; done) | (simp [*]; done)), H', ⟨by have := HK1.out; omega⟩, by repeat (first | exact Drawn0.refl _ | apply Drawn0.step)⟩
       ·rw [if_neg c7] at H
        have c7b0 : ((rd l0 x5_1) == (rd l1 x5_1)) = false := beq_eq_false_iff_ne.mpr c7
        have c7b1 : ((rd l0 x5_1) != (rd l1 x5_1)) = true := bne_iff_ne.mpr c7
        obtain rfl := Option.some.inj H
        have p176 : 0 ≤ (x5_1 : Int) := of_decide_eq_true (pg66_)
        have q176 : x5_1 < (l0.length : Int) := of_decide_eq_true (pg66_)
        obtain ⟨ad176, e176, hx176_0⟩ := Kd.at_int HR0.out x5_1 p176 q176
        (try simp only [Int.reduceToNat] at hx176_0)
        cases e176
        replace p176 := eq_true p176
        replace q176 := eq_true q176
        have p177 : 0 ≤ (x5_1 : Int) := of_decide_eq_true (pg66_)
        have q177 : x5_1 < (l1.length : Int) := of_decide_eq_true (pg66_)
        obtain ⟨ad177, e177, hx177_0⟩ := Kd.at_int HR1.out x5_1 p177 q177
        (try simp only [Int.reduceToNat] at hx177_0)
        cases e177
        replace p177 := eq_true p177
        replace q177 := eq_true q177
        go_wp2
        repeat (go_quiet (fail); try go_wp2)
        go_ret
        lg61_
      ·rw [if_neg c6] at H
       exact absurd H (by simp)
     ·rw [if_neg c5] at H
      exact absurd H (by simp)
    ·rw [if_neg c4] at H
     have c4b0 : decide (x5_1 < (l0.length : Int)) = false := decide_eq_false c4
     clear c4
     obtain rfl := Option.some.inj H
     go_wp2
     repeat (go_quiet (fail); try go_wp2)
     go_ret
     lg61_
 ·rw [if_neg c3] at H
  have c3b0 : ((l0.length : Int) == (l1.length : Int)) = false := beq_eq_false_iff_ne.mpr c3
  have c3b1 : ((l0.length : Int) != (l1.length : Int)) = true := bne_iff_ne.mpr c3
  have c3b2 : (l0.length == l1.length) = false := by first | simpa using c3 | (simp at c3 ⊢; omega)
  obtain rfl := Option.some.inj H
  go_enter Tryd.func9, Tryd.ntmps9
  go_wp2
  repeat (go_quiet (fail); try go_wp2)
  go_ret
  lg61_
def shibbolethlaw05_told.f (k : Nat) (a0_0 : Int) (a0_1 : Int) (l0_2 : List Int) (l0_3 : List Int) (l0_4 : List Int) (a0_5 : Int) (a0_6 : Int) (a0_7 : Int) (a1_0 : Int) (a1_1 : Int) (l1_2 : List Int) (l1_3 : List Int) (l1_4 : List Int) (a1_5 : Int) (a1_6 : Int) (a1_7 : Int) : Option (Bool) := if a0_0 = a1_0 then (if a0_1 = a1_1 then ((shibbolethlaw05_same.f k l0_2 l1_2).bind fun t180 => (pg611_)) else (some false)) else (some false)
theorem shibbolethlaw05_told.mono : ∀ a0 a1 a2 a3 a4 a5 a6 a7 a8 a9 a10 a11 a12 a13 a14 a15 k, LeO (shibbolethlaw05_told.f k a0 a1 a2 a3 a4 a5 a6 a7 a8 a9 a10 a11 a12 a13 a14 a15) (shibbolethlaw05_told.f (k + 1) a0 a1 a2 a3 a4 a5 a6 a7 a8 a9 a10 a11 a12 a13 a14 a15) := by
 intro a0 a1 a2 a3 a4 a5 a6 a7 a8 a9 a10 a11 a12 a13 a14 a15 k
 unfold shibbolethlaw05_told.f
 repeat' first
   | (with_reducible exact shibbolethlaw05_same.mono _ _ _)
   | (with_reducible exact LeO.refl _)
   | (with_reducible exact LeO.none _)
   | (with_reducible refine LeO.ite ?_ ?_)
   | (with_reducible refine LeO.bind ?_ (fun _ => ?_))
   | exact shibbolethlaw05_same.mono _ _ _
   | exact LeO.none _
   | refine LeO.ite ?_ ?_
   | refine LeO.bind ?_ (fun _ => ?_)
set_option maxHeartbeats 8000000 in
set_option maxRecDepth 100000 in
theorem shibbolethlaw05_told.calls (k : Nat) (a0_0 : Int) (a0_1 : Int) (A0_2 : Option Addr) (c0_2 : Nat) (l0_2 : List Int) (A0_3 : Option Addr) (c0_3 : Nat) (l0_3 : List Int) (A0_4 : Option Addr) (c0_4 : Nat) (l0_4 : List Int) (a0_5 : Int) (a0_6 : Int) (a0_7 : Int) (a1_0 : Int) (a1_1 : Int) (A1_2 : Option Addr) (c1_2 : Nat) (l1_2 : List Int) (A1_3 : Option Addr) (c1_3 : Nat) (l1_3 : List Int) (A1_4 : Option Addr) (c1_4 : Nat) (l1_4 : List Int) (a1_5 : Int) (a1_6 : Int) (a1_7 : Int) (r : Bool) (w : World) (hr0_2 : Kd.C (Kd.int .u8) w A0_2 l0_2.length l0_2) (hc0_2 : l0_2.length ≤ c0_2) (hr0_3 : Kd.C (Kd.int .u8) w A0_3 l0_3.length l0_3) (hc0_3 : l0_3.length ≤ c0_3) (hr0_4 : Kd.C (Kd.int .u8) w A0_4 l0_4.length l0_4) (hc0_4 : l0_4.length ≤ c0_4) (hr1_2 : Kd.C (Kd.int .u8) w A1_2 l1_2.length l1_2) (hc1_2 : l1_2.length ≤ c1_2) (hr1_3 : Kd.C (Kd.int .u8) w A1_3 l1_3.length l1_3) (hc1_3 : l1_3.length ≤ c1_3) (hr1_4 : Kd.C (Kd.int .u8) w A1_4 l1_4.length l1_4) (hc1_4 : l1_4.length ≤ c1_4) (h : shibbolethlaw05_told.f k a0_0 a0_1 l0_2 l0_3 l0_4 a0_5 a0_6 a0_7 a1_0 a1_1 l1_2 l1_3 l1_4 a1_5 a1_6 a1_7 = some r) :
  Calls Tryd.prog 8 #[.agg #[.int .i64 a0_0, .int .i64 a0_1, .slice A0_2 l0_2.length c0_2, .slice A0_3 l0_3.length c0_3, .slice A0_4 l0_4.length c0_4, .int .i64 a0_5, .int .i64 a0_6, .int .i64 a0_7], .agg #[.int .i64 a1_0, .int .i64 a1_1, .slice A1_2 l1_2.length c1_2, .slice A1_3 l1_3.length c1_3, .slice A1_4 l1_4.length c1_4, .int .i64 a1_5, .int .i64 a1_6, .int .i64 a1_7]] w fun e w' => e = .returned (.bool r) ∧ Below w.heap.size w w' := by
 have hu33 := Tryd.underlying33
 have hu28 := Tryd.underlying28
 have HR0_2 := Aside0.mk hr0_2
 have HC0_2 := Aside0.mk hc0_2
 clear hr0_2 hc0_2
 have HR0_3 := Aside0.mk hr0_3
 have HC0_3 := Aside0.mk hc0_3
 clear hr0_3 hc0_3
 have HR0_4 := Aside0.mk hr0_4
 have HC0_4 := Aside0.mk hc0_4
 clear hr0_4 hc0_4
 have HR1_2 := Aside0.mk hr1_2
 have HC1_2 := Aside0.mk hc1_2
 clear hr1_2 hc1_2
 have HR1_3 := Aside0.mk hr1_3
 have HC1_3 := Aside0.mk hc1_3
 clear hr1_3 hc1_3
 have HR1_4 := Aside0.mk hr1_4
 have HC1_4 := Aside0.mk hc1_4
 clear hr1_4 hc1_4
 have HB := Aside0.mk (Below.refl w.heap.size w)
 have H : (if a0_0 = a1_0 then (if a0_1 = a1_1 then ((shibbolethlaw05_same.f k l0_2 l1_2).bind fun t180 => (pg611_)) else (some false)) else (some false)) = some r := h
 clear h
 by_cases c3 : a0_0 = a1_0
 ·rw [if_pos c3] at H
  have c3b0 : (a0_0 == a1_0) = true := beq_iff_eq.mpr c3
  have c3b1 : (a0_0 != a1_0) = false := bne_eq_false_iff_eq.mpr c3
  clear c3
  by_cases c4 : a0_1 = a1_1
  ·rw [if_pos c4] at H
   have c4b0 : (a0_1 == a1_1) = true := beq_iff_eq.mpr c4
   have c4b1 : (a0_1 != a1_1) = false := bne_eq_false_iff_eq.mpr c4
   clear c4
   replace H := Option.bind_eq_some_iff.mp H
   obtain ⟨t180, A50, H⟩ := H
   replace H : (pg611_) = some r := H
   have A5 := Aside0.mk A50
   clear A50
   by_cases c6 : t180 = true
   ·subst c6
    have H1 : ((shibbolethlaw05_same.f k l0_3 l1_3).bind fun t181 => (pg60_)) = some r := by rw [if_pos rfl] at H; exact H
    clear H
    have H := H1
    clear H1
    replace H := Option.bind_eq_some_iff.mp H
    obtain ⟨t181, A70, H⟩ := H
    replace H : (pg60_) = some r := H
    have A7 := Aside0.mk A70
    clear A70
    by_cases c8 : t181 = true
    ·subst c8
     have H1 : ((shibbolethlaw05_same.f k l0_4 l1_4).bind fun t182 => (if t182 = true then (pg612_) else (some false))) = some r := by rw [if_pos rfl] at H; exact H
     clear H
     have H := H1
     clear H1
     replace H := Option.bind_eq_some_iff.mp H
     obtain ⟨t182, A90, H⟩ := H
     replace H : (if t182 = true then (pg612_) else (some false)) = some r := H
     have A9 := Aside0.mk A90
     clear A90
     by_cases c10 : t182 = true
     ·subst c10
      have H1 : (pg612_) = some r := by rw [if_pos rfl] at H; exact H
      clear H
      have H := H1
      clear H1
      by_cases c11 : a0_5 = a1_5
      ·rw [if_pos c11] at H
       have c11b0 : (a0_5 == a1_5) = true := beq_iff_eq.mpr c11
       have c11b1 : (a0_5 != a1_5) = false := bne_eq_false_iff_eq.mpr c11
       clear c11
       by_cases c12 : a0_6 = a1_6
       ·rw [if_pos c12] at H
        have c12b0 : (a0_6 == a1_6) = true := beq_iff_eq.mpr c12
        have c12b1 : (a0_6 != a1_6) = false := bne_eq_false_iff_eq.mpr c12
        clear c12
        obtain rfl := Option.some.inj H
        go_enter Tryd.func8, Tryd.ntmps8
        go_wp2_with (first | ((with_reducible refine gate_dst (N := 2) rfl ?_); refine box_event ?hg (N := 2) ?hd (cs := #[.int .i64 a0_0, .int .i64 a0_1, .slice A0_2 l0_2.length c0_2, .slice A0_3 l0_3.length c0_3, .slice A0_4 l0_4.length c0_4, .int .i64 a0_5, .int .i64 a0_6, .int .i64 a0_7]) (t := 33) ?hr ?_; (case hd => rfl); (case hg => rfl); (case hr => first | (go_simp; done) | (go_simp; rfl)); intro gb178 hg w13 hbox hb; have n0_ := Aside0.mk (below_step (by qc0_) hb); have n1_ := Aside0.mk (hbox); have n2_ := Aside0.mk ((pg63_)); have n3_ := Aside0.mk ((pg63_)); clear HB; have HB := n0_; have BK178 := n1_; have GW178 := n2_; have GE178 := n3_; clear n0_ n1_ n2_ n3_; clear hb hbox hg) | ((with_reducible refine gate_dst (N := 3) rfl ?_); refine box_event ?hg (N := 3) ?hd (cs := #[.int .i64 a1_0, .int .i64 a1_1, .slice A1_2 l1_2.length c1_2, .slice A1_3 l1_3.length c1_3, .slice A1_4 l1_4.length c1_4, .int .i64 a1_5, .int .i64 a1_6, .int .i64 a1_7]) (t := 28) ?hr ?_; (case hd => rfl); (case hg => rfl); (case hr => first | (go_simp; done) | (go_simp; rfl)); intro gb179 hg w14 hbox hb; have n0_ := Aside0.mk (blk_below (g := gb178) (o := (og60_)) (by qk_; exact BK178.out) hb); have n1_ := Aside0.mk (below_step (by qb1_ GE178) hb); have n2_ := Aside0.mk (hbox); have n3_ := Aside0.mk ((pg62_)); have n4_ := Aside0.mk ((pg62_)); have n5_ := Aside0.mk ((pg64_)); have n6_ := Aside0.mk ((pg65_)); clear BK178; clear HB; have BK178 := n0_; have HB := n1_; have BK179 := n2_; have GW179 := n3_; have GE179 := n4_; have NB178_179 := n5_; have NB179_178 := n6_; clear n0_ n1_ n2_ n3_ n4_ n5_ n6_; clear hb hbox hg; have hnb15 := NB178_179.out; have hnc15 := NB179_178.out; have hcz16_0 : w14.cell? ⟨gb178, 0, none⟩ = some (.int .i64 a0_0) := (blk_cell BK178.out 0).trans rfl; have hcz16_1 : w14.cell? ⟨gb178, 1, none⟩ = some (.int .i64 a0_1) := (blk_cell BK178.out 1).trans rfl; have hcz16_2 : w14.cell? ⟨gb178, 2, none⟩ = some (.slice A0_2 l0_2.length c0_2) := (blk_cell BK178.out 2).trans rfl; have hcz16_3 : w14.cell? ⟨gb178, 3, none⟩ = some (.slice A0_3 l0_3.length c0_3) := (blk_cell BK178.out 3).trans rfl; have hcz16_4 : w14.cell? ⟨gb178, 4, none⟩ = some (.slice A0_4 l0_4.length c0_4) := (blk_cell BK178.out 4).trans rfl; have hcz16_5 : w14.cell? ⟨gb178, 5, none⟩ = some (.int .i64 a0_5) := (blk_cell BK178.out 5).trans rfl; have hcz16_6 : w14.cell? ⟨gb178, 6, none⟩ = some (.int .i64 a0_6) := (blk_cell BK178.out 6).trans rfl; have hcz16_7 : w14.cell? ⟨gb178, 7, none⟩ = some (.int .i64 a0_7) := (blk_cell BK178.out 7).trans rfl; have hfz16_0 := blk_frozen BK178.out 0; have hfz16_1 := blk_frozen BK178.out 1; have hfz16_2 := blk_frozen BK178.out 2; have hfz16_3 := blk_frozen BK178.out 3; have hfz16_4 := blk_frozen BK178.out 4; have hfz16_5 := blk_frozen BK178.out 5; have hfz16_6 := blk_frozen BK178.out 6; have hfz16_7 := blk_frozen BK178.out 7; have hcz17_0 : w14.cell? ⟨gb179, 0, none⟩ = some (.int .i64 a1_0) := (blk_cell BK179.out 0).trans rfl; have hcz17_1 : w14.cell? ⟨gb179, 1, none⟩ = some (.int .i64 a1_1) := (blk_cell BK179.out 1).trans rfl; have hcz17_2 : w14.cell? ⟨gb179, 2, none⟩ = some (.slice A1_2 l1_2.length c1_2) := (blk_cell BK179.out 2).trans rfl; have hcz17_3 : w14.cell? ⟨gb179, 3, none⟩ = some (.slice A1_3 l1_3.length c1_3) := (blk_cell BK179.out 3).trans rfl; have hcz17_4 : w14.cell? ⟨gb179, 4, none⟩ = some (.slice A1_4 l1_4.length c1_4) := (blk_cell BK179.out 4).trans rfl; have hcz17_5 : w14.cell? ⟨gb179, 5, none⟩ = some (.int .i64 a1_5) := (blk_cell BK179.out 5).trans rfl; have hcz17_6 : w14.cell? ⟨gb179, 6, none⟩ = some (.int .i64 a1_6) := (blk_cell BK179.out 6).trans rfl; have hcz17_7 : w14.cell? ⟨gb179, 7, none⟩ = some (.int .i64 a1_7) := (blk_cell BK179.out 7).trans rfl; have hfz17_0 := blk_frozen BK179.out 0; have hfz17_1 := blk_frozen BK179.out 1; have hfz17_2 := blk_frozen BK179.out 2; have hfz17_3 := blk_frozen BK179.out 3; have hfz17_4 := blk_frozen BK179.out 4; have hfz17_5 := blk_frozen BK179.out 5; have hfz17_6 := blk_frozen BK179.out 6; have hfz17_7 := blk_frozen BK179.out 7) | (go_at_call 9; (with_reducible refine (pg68_).mono ?_); (case side1 => repeat (first | exact (Kd.C_below HR0_2.out HB.out) | exact HR0_2.out | (with_reducible refine Kd.C_alloc ?_ _) | (with_reducible refine Kd.C_drewN ?_ _) | (with_reducible refine Kd.C_drew ?_))); (case side2 => exact HC0_2.out); (case side3 => repeat (first | exact (Kd.C_below HR1_2.out HB.out) | exact HR1_2.out | (with_reducible refine Kd.C_alloc ?_ _) | (with_reducible refine Kd.C_drewN ?_ _) | (with_reducible refine Kd.C_drew ?_))); (case side4 => exact HC1_2.out); rintro e w' ⟨rfl, ⟨nd, rfl⟩⟩) | (go_at_call 9; (with_reducible refine (pg610_).mono ?_); (case side1 => repeat (first | exact (Kd.C_below HR0_3.out (by qb2_ GE178 GE179)) | (with_reducible refine Kd.C_alloc ?_ _) | (with_reducible refine Kd.C_drewN ?_ _) | (with_reducible refine Kd.C_drew ?_))); (case side2 => exact HC0_3.out); (case side3 => repeat (first | exact (Kd.C_below HR1_3.out (by qb2_ GE178 GE179)) | (with_reducible refine Kd.C_alloc ?_ _) | (with_reducible refine Kd.C_drewN ?_ _) | (with_reducible refine Kd.C_drew ?_))); (case side4 => exact HC1_3.out); rintro e w' ⟨rfl, ⟨nd, rfl⟩⟩) | (go_at_call 9; (with_reducible refine (pg613_).mono ?_); (case side1 => repeat (first | exact (Kd.C_below HR0_4.out (by qb2_ GE178 GE179)) | (with_reducible refine Kd.C_alloc ?_ _) | (with_reducible refine Kd.C_drewN ?_ _) | (with_reducible refine Kd.C_drew ?_))); (case side2 => exact HC0_4.out); (case side3 => repeat (first | exact (Kd.C_below HR1_4.out (by qb2_ GE178 GE179)) | (with_reducible refine Kd.C_alloc ?_ _) | (with_reducible refine Kd.C_drewN ?_ _) | (with_reducible refine Kd.C_drew ?_))); (case side4 => exact HC1_4.out); rintro e w' ⟨rfl, ⟨nd, rfl⟩⟩))
        go_ret
        lg62_
       ·rw [if_neg c12] at H
        have c12b0 : (a0_6 == a1_6) = false := beq_eq_false_iff_ne.mpr c12
        have c12b1 : (a0_6 != a1_6) = true := bne_iff_ne.mpr c12
        obtain rfl := Option.some.inj H
        go_enter Tryd.func8, Tryd.ntmps8
        go_wp2_with (first | ((with_reducible refine gate_dst (N := 2) rfl ?_); refine box_event ?hg (N := 2) ?hd (cs := #[.int .i64 a0_0, .int .i64 a0_1, .slice A0_2 l0_2.length c0_2, .slice A0_3 l0_3.length c0_3, .slice A0_4 l0_4.length c0_4, .int .i64 a0_5, .int .i64 a0_6, .int .i64 a0_7]) (t := 33) ?hr ?_; (case hd => rfl); (case hg => rfl); (case hr => first | (go_simp; done) | (go_simp; rfl)); intro gb178 hg w18 hbox hb; have n0_ := Aside0.mk (below_step (by qc0_) hb); have n1_ := Aside0.mk (hbox); have n2_ := Aside0.mk ((pg63_)); have n3_ := Aside0.mk ((pg63_)); clear HB; have HB := n0_; have BK178 := n1_; have GW178 := n2_; have GE178 := n3_; clear n0_ n1_ n2_ n3_; clear hb hbox hg) | ((with_reducible refine gate_dst (N := 3) rfl ?_); refine box_event ?hg (N := 3) ?hd (cs := #[.int .i64 a1_0, .int .i64 a1_1, .slice A1_2 l1_2.length c1_2, .slice A1_3 l1_3.length c1_3, .slice A1_4 l1_4.length c1_4, .int .i64 a1_5, .int .i64 a1_6, .int .i64 a1_7]) (t := 28) ?hr ?_; (case hd => rfl); (case hg => rfl); (case hr => first | (go_simp; done) | (go_simp; rfl)); intro gb179 hg w19 hbox hb; have n0_ := Aside0.mk (blk_below (g := gb178) (o := (og60_)) (by qk_; exact BK178.out) hb); have n1_ := Aside0.mk (below_step (by qb1_ GE178) hb); have n2_ := Aside0.mk (hbox); have n3_ := Aside0.mk ((pg62_)); have n4_ := Aside0.mk ((pg62_)); have n5_ := Aside0.mk ((pg64_)); have n6_ := Aside0.mk ((pg65_)); clear BK178; clear HB; have BK178 := n0_; have HB := n1_; have BK179 := n2_; have GW179 := n3_; have GE179 := n4_; have NB178_179 := n5_; have NB179_178 := n6_; clear n0_ n1_ n2_ n3_ n4_ n5_ n6_; clear hb hbox hg; have hnb20 := NB178_179.out; have hnc20 := NB179_178.out; have hcz21_0 : w19.cell? ⟨gb178, 0, none⟩ = some (.int .i64 a0_0) := (blk_cell BK178.out 0).trans rfl; have hcz21_1 : w19.cell? ⟨gb178, 1, none⟩ = some (.int .i64 a0_1) := (blk_cell BK178.out 1).trans rfl; have hcz21_2 : w19.cell? ⟨gb178, 2, none⟩ = some (.slice A0_2 l0_2.length c0_2) := (blk_cell BK178.out 2).trans rfl; have hcz21_3 : w19.cell? ⟨gb178, 3, none⟩ = some (.slice A0_3 l0_3.length c0_3) := (blk_cell BK178.out 3).trans rfl; have hcz21_4 : w19.cell? ⟨gb178, 4, none⟩ = some (.slice A0_4 l0_4.length c0_4) := (blk_cell BK178.out 4).trans rfl; have hcz21_5 : w19.cell? ⟨gb178, 5, none⟩ = some (.int .i64 a0_5) := (blk_cell BK178.out 5).trans rfl; have hcz21_6 : w19.cell? ⟨gb178, 6, none⟩ = some (.int .i64 a0_6) := (blk_cell BK178.out 6).trans rfl; have hcz21_7 : w19.cell? ⟨gb178, 7, none⟩ = some (.int .i64 a0_7) := (blk_cell BK178.out 7).trans rfl; have hfz21_0 := blk_frozen BK178.out 0; have hfz21_1 := blk_frozen BK178.out 1; have hfz21_2 := blk_frozen BK178.out 2; have hfz21_3 := blk_frozen BK178.out 3; have hfz21_4 := blk_frozen BK178.out 4; have hfz21_5 := blk_frozen BK178.out 5; have hfz21_6 := blk_frozen BK178.out 6; have hfz21_7 := blk_frozen BK178.out 7; have hcz22_0 : w19.cell? ⟨gb179, 0, none⟩ = some (.int .i64 a1_0) := (blk_cell BK179.out 0).trans rfl; have hcz22_1 : w19.cell? ⟨gb179, 1, none⟩ = some (.int .i64 a1_1) := (blk_cell BK179.out 1).trans rfl; have hcz22_2 : w19.cell? ⟨gb179, 2, none⟩ = some (.slice A1_2 l1_2.length c1_2) := (blk_cell BK179.out 2).trans rfl; have hcz22_3 : w19.cell? ⟨gb179, 3, none⟩ = some (.slice A1_3 l1_3.length c1_3) := (blk_cell BK179.out 3).trans rfl; have hcz22_4 : w19.cell? ⟨gb179, 4, none⟩ = some (.slice A1_4 l1_4.length c1_4) := (blk_cell BK179.out 4).trans rfl; have hcz22_5 : w19.cell? ⟨gb179, 5, none⟩ = some (.int .i64 a1_5) := (blk_cell BK179.out 5).trans rfl; have hcz22_6 : w19.cell? ⟨gb179, 6, none⟩ = some (.int .i64 a1_6) := (blk_cell BK179.out 6).trans rfl; have hcz22_7 : w19.cell? ⟨gb179, 7, none⟩ = some (.int .i64 a1_7) := (blk_cell BK179.out 7).trans rfl; have hfz22_0 := blk_frozen BK179.out 0; have hfz22_1 := blk_frozen BK179.out 1; have hfz22_2 := blk_frozen BK179.out 2; have hfz22_3 := blk_frozen BK179.out 3; have hfz22_4 := blk_frozen BK179.out 4; have hfz22_5 := blk_frozen BK179.out 5; have hfz22_6 := blk_frozen BK179.out 6; have hfz22_7 := blk_frozen BK179.out 7) | (go_at_call 9; (with_reducible refine (pg68_).mono ?_); (case side1 => repeat (first | exact (Kd.C_below HR0_2.out HB.out) | exact HR0_2.out | (with_reducible refine Kd.C_alloc ?_ _) | (with_reducible refine Kd.C_drewN ?_ _) | (with_reducible refine Kd.C_drew ?_))); (case side2 => exact HC0_2.out); (case side3 => repeat (first | exact (Kd.C_below HR1_2.out HB.out) | exact HR1_2.out | (with_reducible refine Kd.C_alloc ?_ _) | (with_reducible refine Kd.C_drewN ?_ _) | (with_reducible refine Kd.C_drew ?_))); (case side4 => exact HC1_2.out); rintro e w' ⟨rfl, ⟨nd, rfl⟩⟩) | (go_at_call 9; (with_reducible refine (pg610_).mono ?_); (case side1 => repeat (first | exact (Kd.C_below HR0_3.out (by qb2_ GE178 GE179)) | (with_reducible refine Kd.C_alloc ?_ _) | (with_reducible refine Kd.C_drewN ?_ _) | (with_reducible refine Kd.C_drew ?_))); (case side2 => exact HC0_3.out); (case side3 => repeat (first | exact (Kd.C_below HR1_3.out (by qb2_ GE178 GE179)) | (with_reducible refine Kd.C_alloc ?_ _) | (with_reducible refine Kd.C_drewN ?_ _) | (with_reducible refine Kd.C_drew ?_))); (case side4 => exact HC1_3.out); rintro e w' ⟨rfl, ⟨nd, rfl⟩⟩) | (go_at_call 9; (with_reducible refine (pg613_).mono ?_); (case side1 => repeat (first | exact (Kd.C_below HR0_4.out (by qb2_ GE178 GE179)) | (with_reducible refine Kd.C_alloc ?_ _) | (with_reducible refine Kd.C_drewN ?_ _) | (with_reducible refine Kd.C_drew ?_))); (case side2 => exact HC0_4.out); (case side3 => repeat (first | exact (Kd.C_below HR1_4.out (by qb2_ GE178 GE179)) | (with_reducible refine Kd.C_alloc ?_ _) | (with_reducible refine Kd.C_drewN ?_ _) | (with_reducible refine Kd.C_drew ?_))); (case side4 => exact HC1_4.out); rintro e w' ⟨rfl, ⟨nd, rfl⟩⟩))
        go_ret
        lg62_
      ·rw [if_neg c11] at H
       have c11b0 : (a0_5 == a1_5) = false := beq_eq_false_iff_ne.mpr c11
       have c11b1 : (a0_5 != a1_5) = true := bne_iff_ne.mpr c11
       obtain rfl := Option.some.inj H
       go_enter Tryd.func8, Tryd.ntmps8
       go_wp2_with (first | ((with_reducible refine gate_dst (N := 2) rfl ?_); refine box_event ?hg (N := 2) ?hd (cs := #[.int .i64 a0_0, .int .i64 a0_1, .slice A0_2 l0_2.length c0_2, .slice A0_3 l0_3.length c0_3, .slice A0_4 l0_4.length c0_4, .int .i64 a0_5, .int .i64 a0_6, .int .i64 a0_7]) (t := 33) ?hr ?_; (case hd => rfl); (case hg => rfl); (case hr => first | (go_simp; done) | (go_simp; rfl)); intro gb178 hg w23 hbox hb; have n0_ := Aside0.mk (below_step (by qc0_) hb); have n1_ := Aside0.mk (hbox); have n2_ := Aside0.mk ((pg63_)); have n3_ := Aside0.mk ((pg63_)); clear HB; have HB := n0_; have BK178 := n1_; have GW178 := n2_; have GE178 := n3_; clear n0_ n1_ n2_ n3_; clear hb hbox hg) | ((with_reducible refine gate_dst (N := 3) rfl ?_); refine box_event ?hg (N := 3) ?hd (cs := #[.int .i64 a1_0, .int .i64 a1_1, .slice A1_2 l1_2.length c1_2, .slice A1_3 l1_3.length c1_3, .slice A1_4 l1_4.length c1_4, .int .i64 a1_5, .int .i64 a1_6, .int .i64 a1_7]) (t := 28) ?hr ?_; (case hd => rfl); (case hg => rfl); (case hr => first | (go_simp; done) | (go_simp; rfl)); intro gb179 hg w24 hbox hb; have n0_ := Aside0.mk (blk_below (g := gb178) (o := (og60_)) (by qk_; exact BK178.out) hb); have n1_ := Aside0.mk (below_step (by qb1_ GE178) hb); have n2_ := Aside0.mk (hbox); have n3_ := Aside0.mk ((pg62_)); have n4_ := Aside0.mk ((pg62_)); have n5_ := Aside0.mk ((pg64_)); have n6_ := Aside0.mk ((pg65_)); clear BK178; clear HB; have BK178 := n0_; have HB := n1_; have BK179 := n2_; have GW179 := n3_; have GE179 := n4_; have NB178_179 := n5_; have NB179_178 := n6_; clear n0_ n1_ n2_ n3_ n4_ n5_ n6_; clear hb hbox hg; have hnb25 := NB178_179.out; have hnc25 := NB179_178.out; have hcz26_0 : w24.cell? ⟨gb178, 0, none⟩ = some (.int .i64 a0_0) := (blk_cell BK178.out 0).trans rfl; have hcz26_1 : w24.cell? ⟨gb178, 1, none⟩ = some (.int .i64 a0_1) := (blk_cell BK178.out 1).trans rfl; have hcz26_2 : w24.cell? ⟨gb178, 2, none⟩ = some (.slice A0_2 l0_2.length c0_2) := (blk_cell BK178.out 2).trans rfl; have hcz26_3 : w24.cell? ⟨gb178, 3, none⟩ = some (.slice A0_3 l0_3.length c0_3) := (blk_cell BK178.out 3).trans rfl; have hcz26_4 : w24.cell? ⟨gb178, 4, none⟩ = some (.slice A0_4 l0_4.length c0_4) := (blk_cell BK178.out 4).trans rfl; have hcz26_5 : w24.cell? ⟨gb178, 5, none⟩ = some (.int .i64 a0_5) := (blk_cell BK178.out 5).trans rfl; have hcz26_6 : w24.cell? ⟨gb178, 6, none⟩ = some (.int .i64 a0_6) := (blk_cell BK178.out 6).trans rfl; have hcz26_7 : w24.cell? ⟨gb178, 7, none⟩ = some (.int .i64 a0_7) := (blk_cell BK178.out 7).trans rfl; have hfz26_0 := blk_frozen BK178.out 0; have hfz26_1 := blk_frozen BK178.out 1; have hfz26_2 := blk_frozen BK178.out 2; have hfz26_3 := blk_frozen BK178.out 3; have hfz26_4 := blk_frozen BK178.out 4; have hfz26_5 := blk_frozen BK178.out 5; have hfz26_6 := blk_frozen BK178.out 6; have hfz26_7 := blk_frozen BK178.out 7; have hcz27_0 : w24.cell? ⟨gb179, 0, none⟩ = some (.int .i64 a1_0) := (blk_cell BK179.out 0).trans rfl; have hcz27_1 : w24.cell? ⟨gb179, 1, none⟩ = some (.int .i64 a1_1) := (blk_cell BK179.out 1).trans rfl; have hcz27_2 : w24.cell? ⟨gb179, 2, none⟩ = some (.slice A1_2 l1_2.length c1_2) := (blk_cell BK179.out 2).trans rfl; have hcz27_3 : w24.cell? ⟨gb179, 3, none⟩ = some (.slice A1_3 l1_3.length c1_3) := (blk_cell BK179.out 3).trans rfl; have hcz27_4 : w24.cell? ⟨gb179, 4, none⟩ = some (.slice A1_4 l1_4.length c1_4) := (blk_cell BK179.out 4).trans rfl; have hcz27_5 : w24.cell? ⟨gb179, 5, none⟩ = some (.int .i64 a1_5) := (blk_cell BK179.out 5).trans rfl; have hcz27_6 : w24.cell? ⟨gb179, 6, none⟩ = some (.int .i64 a1_6) := (blk_cell BK179.out 6).trans rfl; have hcz27_7 : w24.cell? ⟨gb179, 7, none⟩ = some (.int .i64 a1_7) := (blk_cell BK179.out 7).trans rfl; have hfz27_0 := blk_frozen BK179.out 0; have hfz27_1 := blk_frozen BK179.out 1; have hfz27_2 := blk_frozen BK179.out 2; have hfz27_3 := blk_frozen BK179.out 3; have hfz27_4 := blk_frozen BK179.out 4; have hfz27_5 := blk_frozen BK179.out 5; have hfz27_6 := blk_frozen BK179.out 6; have hfz27_7 := blk_frozen BK179.out 7) | (go_at_call 9; (with_reducible refine (pg68_).mono ?_); (case side1 => repeat (first | exact (Kd.C_below HR0_2.out HB.out) | exact HR0_2.out | (with_reducible refine Kd.C_alloc ?_ _) | (with_reducible refine Kd.C_drewN ?_ _) | (with_reducible refine Kd.C_drew ?_))); (case side2 => exact HC0_2.out); (case side3 => repeat (first | exact (Kd.C_below HR1_2.out HB.out) | exact HR1_2.out | (with_reducible refine Kd.C_alloc ?_ _) | (with_reducible refine Kd.C_drewN ?_ _) | (with_reducible refine Kd.C_drew ?_))); (case side4 => exact HC1_2.out); rintro e w' ⟨rfl, ⟨nd, rfl⟩⟩) | (go_at_call 9; (with_reducible refine (pg610_).mono ?_); (case side1 => repeat (first | exact (Kd.C_below HR0_3.out (by qb2_ GE178 GE179)) | (with_reducible refine Kd.C_alloc ?_ _) | (with_reducible refine Kd.C_drewN ?_ _) | (with_reducible refine Kd.C_drew ?_))); (case side2 => exact HC0_3.out); (case side3 => repeat (first | exact (Kd.C_below HR1_3.out (by qb2_ GE178 GE179)) | (with_reducible refine Kd.C_alloc ?_ _) | (with_reducible refine Kd.C_drewN ?_ _) | (with_reducible refine Kd.C_drew ?_))); (case side4 => exact HC1_3.out); rintro e w' ⟨rfl, ⟨nd, rfl⟩⟩) | (go_at_call 9; (with_reducible refine (pg613_).mono ?_); (case side1 => repeat (first | exact (Kd.C_below HR0_4.out (by qb2_ GE178 GE179)) | (with_reducible refine Kd.C_alloc ?_ _) | (with_reducible refine Kd.C_drewN ?_ _) | (with_reducible refine Kd.C_drew ?_))); (case side2 => exact HC0_4.out); (case side3 => repeat (first | exact (Kd.C_below HR1_4.out (by qb2_ GE178 GE179)) | (with_reducible refine Kd.C_alloc ?_ _) | (with_reducible refine Kd.C_drewN ?_ _) | (with_reducible refine Kd.C_drew ?_))); (case side4 => exact HC1_4.out); rintro e w' ⟨rfl, ⟨nd, rfl⟩⟩))
       go_ret
       lg62_
     ·replace c10 := Bool.eq_false_iff.mpr c10
      subst c10
      lg63_
      clear H
      have H := H1
      clear H1
      obtain rfl := Option.some.inj H
      go_enter Tryd.func8, Tryd.ntmps8
      go_wp2_with (first | ((with_reducible refine gate_dst (N := 2) rfl ?_); refine box_event ?hg (N := 2) ?hd (cs := #[.int .i64 a0_0, .int .i64 a0_1, .slice A0_2 l0_2.length c0_2, .slice A0_3 l0_3.length c0_3, .slice A0_4 l0_4.length c0_4, .int .i64 a0_5, .int .i64 a0_6, .int .i64 a0_7]) (t := 33) ?hr ?_; (case hd => rfl); (case hg => rfl); (case hr => first | (go_simp; done) | (go_simp; rfl)); intro gb178 hg w28 hbox hb; have n0_ := Aside0.mk (below_step (by qc0_) hb); have n1_ := Aside0.mk (hbox); have n2_ := Aside0.mk ((pg63_)); have n3_ := Aside0.mk ((pg63_)); clear HB; have HB := n0_; have BK178 := n1_; have GW178 := n2_; have GE178 := n3_; clear n0_ n1_ n2_ n3_; clear hb hbox hg) | ((with_reducible refine gate_dst (N := 3) rfl ?_); refine box_event ?hg (N := 3) ?hd (cs := #[.int .i64 a1_0, .int .i64 a1_1, .slice A1_2 l1_2.length c1_2, .slice A1_3 l1_3.length c1_3, .slice A1_4 l1_4.length c1_4, .int .i64 a1_5, .int .i64 a1_6, .int .i64 a1_7]) (t := 28) ?hr ?_; (case hd => rfl); (case hg => rfl); (case hr => first | (go_simp; done) | (go_simp; rfl)); intro gb179 hg w29 hbox hb; have n0_ := Aside0.mk (blk_below (g := gb178) (o := (og60_)) (by qk_; exact BK178.out) hb); have n1_ := Aside0.mk (below_step (by qb1_ GE178) hb); have n2_ := Aside0.mk (hbox); have n3_ := Aside0.mk ((pg62_)); have n4_ := Aside0.mk ((pg62_)); have n5_ := Aside0.mk ((pg64_)); have n6_ := Aside0.mk ((pg65_)); clear BK178; clear HB; have BK178 := n0_; have HB := n1_; have BK179 := n2_; have GW179 := n3_; have GE179 := n4_; have NB178_179 := n5_; have NB179_178 := n6_; clear n0_ n1_ n2_ n3_ n4_ n5_ n6_; clear hb hbox hg; have hnb30 := NB178_179.out; have hnc30 := NB179_178.out; have hcz31_0 : w29.cell? ⟨gb178, 0, none⟩ = some (.int .i64 a0_0) := (blk_cell BK178.out 0).trans rfl; have hcz31_1 : w29.cell? ⟨gb178, 1, none⟩ = some (.int .i64 a0_1) := (blk_cell BK178.out 1).trans rfl; have hcz31_2 : w29.cell? ⟨gb178, 2, none⟩ = some (.slice A0_2 l0_2.length c0_2) := (blk_cell BK178.out 2).trans rfl; have hcz31_3 : w29.cell? ⟨gb178, 3, none⟩ = some (.slice A0_3 l0_3.length c0_3) := (blk_cell BK178.out 3).trans rfl; have hcz31_4 : w29.cell? ⟨gb178, 4, none⟩ = some (.slice A0_4 l0_4.length c0_4) := (blk_cell BK178.out 4).trans rfl; have hcz31_5 : w29.cell? ⟨gb178, 5, none⟩ = some (.int .i64 a0_5) := (blk_cell BK178.out 5).trans rfl; have hcz31_6 : w29.cell? ⟨gb178, 6, none⟩ = some (.int .i64 a0_6) := (blk_cell BK178.out 6).trans rfl; have hcz31_7 : w29.cell? ⟨gb178, 7, none⟩ = some (.int .i64 a0_7) := (blk_cell BK178.out 7).trans rfl; have hfz31_0 := blk_frozen BK178.out 0; have hfz31_1 := blk_frozen BK178.out 1; have hfz31_2 := blk_frozen BK178.out 2; have hfz31_3 := blk_frozen BK178.out 3; have hfz31_4 := blk_frozen BK178.out 4; have hfz31_5 := blk_frozen BK178.out 5; have hfz31_6 := blk_frozen BK178.out 6; have hfz31_7 := blk_frozen BK178.out 7; have hcz32_0 : w29.cell? ⟨gb179, 0, none⟩ = some (.int .i64 a1_0) := (blk_cell BK179.out 0).trans rfl; have hcz32_1 : w29.cell? ⟨gb179, 1, none⟩ = some (.int .i64 a1_1) := (blk_cell BK179.out 1).trans rfl; have hcz32_2 : w29.cell? ⟨gb179, 2, none⟩ = some (.slice A1_2 l1_2.length c1_2) := (blk_cell BK179.out 2).trans rfl; have hcz32_3 : w29.cell? ⟨gb179, 3, none⟩ = some (.slice A1_3 l1_3.length c1_3) := (blk_cell BK179.out 3).trans rfl; have hcz32_4 : w29.cell? ⟨gb179, 4, none⟩ = some (.slice A1_4 l1_4.length c1_4) := (blk_cell BK179.out 4).trans rfl; have hcz32_5 : w29.cell? ⟨gb179, 5, none⟩ = some (.int .i64 a1_5) := (blk_cell BK179.out 5).trans rfl; have hcz32_6 : w29.cell? ⟨gb179, 6, none⟩ = some (.int .i64 a1_6) := (blk_cell BK179.out 6).trans rfl; have hcz32_7 : w29.cell? ⟨gb179, 7, none⟩ = some (.int .i64 a1_7) := (blk_cell BK179.out 7).trans rfl; have hfz32_0 := blk_frozen BK179.out 0; have hfz32_1 := blk_frozen BK179.out 1; have hfz32_2 := blk_frozen BK179.out 2; have hfz32_3 := blk_frozen BK179.out 3; have hfz32_4 := blk_frozen BK179.out 4; have hfz32_5 := blk_frozen BK179.out 5; have hfz32_6 := blk_frozen BK179.out 6; have hfz32_7 := blk_frozen BK179.out 7) | (go_at_call 9; (with_reducible refine (pg68_).mono ?_); (case side1 => repeat (first | exact (Kd.C_below HR0_2.out HB.out) | exact HR0_2.out | (with_reducible refine Kd.C_alloc ?_ _) | (with_reducible refine Kd.C_drewN ?_ _) | (with_reducible refine Kd.C_drew ?_))); (case side2 => exact HC0_2.out); (case side3 => repeat (first | exact (Kd.C_below HR1_2.out HB.out) | exact HR1_2.out | (with_reducible refine Kd.C_alloc ?_ _) | (with_reducible refine Kd.C_drewN ?_ _) | (with_reducible refine Kd.C_drew ?_))); (case side4 => exact HC1_2.out); rintro e w' ⟨rfl, ⟨nd, rfl⟩⟩) | (go_at_call 9; (with_reducible refine (pg610_).mono ?_); (case side1 => repeat (first | exact (Kd.C_below HR0_3.out (by qb2_ GE178 GE179)) | (with_reducible refine Kd.C_alloc ?_ _) | (with_reducible refine Kd.C_drewN ?_ _) | (with_reducible refine Kd.C_drew ?_))); (case side2 => exact HC0_3.out); (case side3 => repeat (first | exact (Kd.C_below HR1_3.out (by qb2_ GE178 GE179)) | (with_reducible refine Kd.C_alloc ?_ _) | (with_reducible refine Kd.C_drewN ?_ _) | (with_reducible refine Kd.C_drew ?_))); (case side4 => exact HC1_3.out); rintro e w' ⟨rfl, ⟨nd, rfl⟩⟩) | (go_at_call 9; (with_reducible refine (shibbolethlaw05_same.calls k _ _ l0_4 _ _ l1_4 false _ ?side1 ?side2 ?side3 ?side4 A9.out).mono ?_); (case side1 => repeat (first | exact (Kd.C_below HR0_4.out (by qb2_ GE178 GE179)) | (with_reducible refine Kd.C_alloc ?_ _) | (with_reducible refine Kd.C_drewN ?_ _) | (with_reducible refine Kd.C_drew ?_))); (case side2 => exact HC0_4.out); (case side3 => repeat (first | exact (Kd.C_below HR1_4.out (by qb2_ GE178 GE179)) | (with_reducible refine Kd.C_alloc ?_ _) | (with_reducible refine Kd.C_drewN ?_ _) | (with_reducible refine Kd.C_drew ?_))); (case side4 => exact HC1_4.out); rintro e w' ⟨rfl, ⟨nd, rfl⟩⟩))
      go_ret
      lg62_
    ·replace c8 := Bool.eq_false_iff.mpr c8
     subst c8
     lg63_
     clear H
     have H := H1
     clear H1
     obtain rfl := Option.some.inj H
     go_enter Tryd.func8, Tryd.ntmps8
     go_wp2_with (first | ((with_reducible refine gate_dst (N := 2) rfl ?_); refine box_event ?hg (N := 2) ?hd (cs := #[.int .i64 a0_0, .int .i64 a0_1, .slice A0_2 l0_2.length c0_2, .slice A0_3 l0_3.length c0_3, .slice A0_4 l0_4.length c0_4, .int .i64 a0_5, .int .i64 a0_6, .int .i64 a0_7]) (t := 33) ?hr ?_; (case hd => rfl); (case hg => rfl); (case hr => first | (go_simp; done) | (go_simp; rfl)); intro gb178 hg w33 hbox hb; have n0_ := Aside0.mk (below_step (by qc0_) hb); have n1_ := Aside0.mk (hbox); have n2_ := Aside0.mk ((pg63_)); have n3_ := Aside0.mk ((pg63_)); clear HB; have HB := n0_; have BK178 := n1_; have GW178 := n2_; have GE178 := n3_; clear n0_ n1_ n2_ n3_; clear hb hbox hg) | ((with_reducible refine gate_dst (N := 3) rfl ?_); refine box_event ?hg (N := 3) ?hd (cs := #[.int .i64 a1_0, .int .i64 a1_1, .slice A1_2 l1_2.length c1_2, .slice A1_3 l1_3.length c1_3, .slice A1_4 l1_4.length c1_4, .int .i64 a1_5, .int .i64 a1_6, .int .i64 a1_7]) (t := 28) ?hr ?_; (case hd => rfl); (case hg => rfl); (case hr => first | (go_simp; done) | (go_simp; rfl)); intro gb179 hg w34 hbox hb; have n0_ := Aside0.mk (blk_below (g := gb178) (o := (og60_)) (by qk_; exact BK178.out) hb); have n1_ := Aside0.mk (below_step (by qb1_ GE178) hb); have n2_ := Aside0.mk (hbox); have n3_ := Aside0.mk ((pg62_)); have n4_ := Aside0.mk ((pg62_)); have n5_ := Aside0.mk ((pg64_)); have n6_ := Aside0.mk ((pg65_)); clear BK178; clear HB; have BK178 := n0_; have HB := n1_; have BK179 := n2_; have GW179 := n3_; have GE179 := n4_; have NB178_179 := n5_; have NB179_178 := n6_; clear n0_ n1_ n2_ n3_ n4_ n5_ n6_; clear hb hbox hg; have hnb35 := NB178_179.out; have hnc35 := NB179_178.out; have hcz36_0 : w34.cell? ⟨gb178, 0, none⟩ = some (.int .i64 a0_0) := (blk_cell BK178.out 0).trans rfl; have hcz36_1 : w34.cell? ⟨gb178, 1, none⟩ = some (.int .i64 a0_1) := (blk_cell BK178.out 1).trans rfl; have hcz36_2 : w34.cell? ⟨gb178, 2, none⟩ = some (.slice A0_2 l0_2.length c0_2) := (blk_cell BK178.out 2).trans rfl; have hcz36_3 : w34.cell? ⟨gb178, 3, none⟩ = some (.slice A0_3 l0_3.length c0_3) := (blk_cell BK178.out 3).trans rfl; have hcz36_4 : w34.cell? ⟨gb178, 4, none⟩ = some (.slice A0_4 l0_4.length c0_4) := (blk_cell BK178.out 4).trans rfl; have hcz36_5 : w34.cell? ⟨gb178, 5, none⟩ = some (.int .i64 a0_5) := (blk_cell BK178.out 5).trans rfl; have hcz36_6 : w34.cell? ⟨gb178, 6, none⟩ = some (.int .i64 a0_6) := (blk_cell BK178.out 6).trans rfl; have hcz36_7 : w34.cell? ⟨gb178, 7, none⟩ = some (.int .i64 a0_7) := (blk_cell BK178.out 7).trans rfl; have hfz36_0 := blk_frozen BK178.out 0; have hfz36_1 := blk_frozen BK178.out 1; have hfz36_2 := blk_frozen BK178.out 2; have hfz36_3 := blk_frozen BK178.out 3; have hfz36_4 := blk_frozen BK178.out 4; have hfz36_5 := blk_frozen BK178.out 5; have hfz36_6 := blk_frozen BK178.out 6; have hfz36_7 := blk_frozen BK178.out 7; have hcz37_0 : w34.cell? ⟨gb179, 0, none⟩ = some (.int .i64 a1_0) := (blk_cell BK179.out 0).trans rfl; have hcz37_1 : w34.cell? ⟨gb179, 1, none⟩ = some (.int .i64 a1_1) := (blk_cell BK179.out 1).trans rfl; have hcz37_2 : w34.cell? ⟨gb179, 2, none⟩ = some (.slice A1_2 l1_2.length c1_2) := (blk_cell BK179.out 2).trans rfl; have hcz37_3 : w34.cell? ⟨gb179, 3, none⟩ = some (.slice A1_3 l1_3.length c1_3) := (blk_cell BK179.out 3).trans rfl; have hcz37_4 : w34.cell? ⟨gb179, 4, none⟩ = some (.slice A1_4 l1_4.length c1_4) := (blk_cell BK179.out 4).trans rfl; have hcz37_5 : w34.cell? ⟨gb179, 5, none⟩ = some (.int .i64 a1_5) := (blk_cell BK179.out 5).trans rfl; have hcz37_6 : w34.cell? ⟨gb179, 6, none⟩ = some (.int .i64 a1_6) := (blk_cell BK179.out 6).trans rfl; have hcz37_7 : w34.cell? ⟨gb179, 7, none⟩ = some (.int .i64 a1_7) := (blk_cell BK179.out 7).trans rfl; have hfz37_0 := blk_frozen BK179.out 0; have hfz37_1 := blk_frozen BK179.out 1; have hfz37_2 := blk_frozen BK179.out 2; have hfz37_3 := blk_frozen BK179.out 3; have hfz37_4 := blk_frozen BK179.out 4; have hfz37_5 := blk_frozen BK179.out 5; have hfz37_6 := blk_frozen BK179.out 6; have hfz37_7 := blk_frozen BK179.out 7) | (go_at_call 9; (with_reducible refine (pg68_).mono ?_); (case side1 => repeat (first | exact (Kd.C_below HR0_2.out HB.out) | exact HR0_2.out | (with_reducible refine Kd.C_alloc ?_ _) | (with_reducible refine Kd.C_drewN ?_ _) | (with_reducible refine Kd.C_drew ?_))); (case side2 => exact HC0_2.out); (case side3 => repeat (first | exact (Kd.C_below HR1_2.out HB.out) | exact HR1_2.out | (with_reducible refine Kd.C_alloc ?_ _) | (with_reducible refine Kd.C_drewN ?_ _) | (with_reducible refine Kd.C_drew ?_))); (case side4 => exact HC1_2.out); rintro e w' ⟨rfl, ⟨nd, rfl⟩⟩) | (go_at_call 9; (with_reducible refine (shibbolethlaw05_same.calls k _ _ l0_3 _ _ l1_3 false _ ?side1 ?side2 ?side3 ?side4 A7.out).mono ?_); (case side1 => repeat (first | exact (Kd.C_below HR0_3.out (by qb2_ GE178 GE179)) | (with_reducible refine Kd.C_alloc ?_ _) | (with_reducible refine Kd.C_drewN ?_ _) | (with_reducible refine Kd.C_drew ?_))); (case side2 => exact HC0_3.out); (case side3 => repeat (first | exact (Kd.C_below HR1_3.out (by qb2_ GE178 GE179)) | (with_reducible refine Kd.C_alloc ?_ _) | (with_reducible refine Kd.C_drewN ?_ _) | (with_reducible refine Kd.C_drew ?_))); (case side4 => exact HC1_3.out); rintro e w' ⟨rfl, ⟨nd, rfl⟩⟩))
     go_ret
     lg62_
   ·replace c6 := Bool.eq_false_iff.mpr c6
    subst c6
    lg63_
    clear H
    have H := H1
    clear H1
    obtain rfl := Option.some.inj H
    go_enter Tryd.func8, Tryd.ntmps8
    go_wp2_with (first | ((with_reducible refine gate_dst (N := 2) rfl ?_); refine box_event ?hg (N := 2) ?hd (cs := #[.int .i64 a0_0, .int .i64 a0_1, .slice A0_2 l0_2.length c0_2, .slice A0_3 l0_3.length c0_3, .slice A0_4 l0_4.length c0_4, .int .i64 a0_5, .int .i64 a0_6, .int .i64 a0_7]) (t := 33) ?hr ?_; (case hd => rfl); (case hg => rfl); (case hr => first | (go_simp; done) | (go_simp; rfl)); intro gb178 hg w38 hbox hb; have n0_ := Aside0.mk (below_step (by qc0_) hb); have n1_ := Aside0.mk (hbox); have n2_ := Aside0.mk ((pg63_)); have n3_ := Aside0.mk ((pg63_)); clear HB; have HB := n0_; have BK178 := n1_; have GW178 := n2_; have GE178 := n3_; clear n0_ n1_ n2_ n3_; clear hb hbox hg) | ((with_reducible refine gate_dst (N := 3) rfl ?_); refine box_event ?hg (N := 3) ?hd (cs := #[.int .i64 a1_0, .int .i64 a1_1, .slice A1_2 l1_2.length c1_2, .slice A1_3 l1_3.length c1_3, .slice A1_4 l1_4.length c1_4, .int .i64 a1_5, .int .i64 a1_6, .int .i64 a1_7]) (t := 28) ?hr ?_; (case hd => rfl); (case hg => rfl); (case hr => first | (go_simp; done) | (go_simp; rfl)); intro gb179 hg w39 hbox hb; have n0_ := Aside0.mk (blk_below (g := gb178) (o := (og60_)) (by qk_; exact BK178.out) hb); have n1_ := Aside0.mk (below_step (by qb1_ GE178) hb); have n2_ := Aside0.mk (hbox); have n3_ := Aside0.mk ((pg62_)); have n4_ := Aside0.mk ((pg62_)); have n5_ := Aside0.mk ((pg64_)); have n6_ := Aside0.mk ((pg65_)); clear BK178; clear HB; have BK178 := n0_; have HB := n1_; have BK179 := n2_; have GW179 := n3_; have GE179 := n4_; have NB178_179 := n5_; have NB179_178 := n6_; clear n0_ n1_ n2_ n3_ n4_ n5_ n6_; clear hb hbox hg; have hnb40 := NB178_179.out; have hnc40 := NB179_178.out; have hcz41_0 : w39.cell? ⟨gb178, 0, none⟩ = some (.int .i64 a0_0) := (blk_cell BK178.out 0).trans rfl; have hcz41_1 : w39.cell? ⟨gb178, 1, none⟩ = some (.int .i64 a0_1) := (blk_cell BK178.out 1).trans rfl; have hcz41_2 : w39.cell? ⟨gb178, 2, none⟩ = some (.slice A0_2 l0_2.length c0_2) := (blk_cell BK178.out 2).trans rfl; have hcz41_3 : w39.cell? ⟨gb178, 3, none⟩ = some (.slice A0_3 l0_3.length c0_3) := (blk_cell BK178.out 3).trans rfl; have hcz41_4 : w39.cell? ⟨gb178, 4, none⟩ = some (.slice A0_4 l0_4.length c0_4) := (blk_cell BK178.out 4).trans rfl; have hcz41_5 : w39.cell? ⟨gb178, 5, none⟩ = some (.int .i64 a0_5) := (blk_cell BK178.out 5).trans rfl; have hcz41_6 : w39.cell? ⟨gb178, 6, none⟩ = some (.int .i64 a0_6) := (blk_cell BK178.out 6).trans rfl; have hcz41_7 : w39.cell? ⟨gb178, 7, none⟩ = some (.int .i64 a0_7) := (blk_cell BK178.out 7).trans rfl; have hfz41_0 := blk_frozen BK178.out 0; have hfz41_1 := blk_frozen BK178.out 1; have hfz41_2 := blk_frozen BK178.out 2; have hfz41_3 := blk_frozen BK178.out 3; have hfz41_4 := blk_frozen BK178.out 4; have hfz41_5 := blk_frozen BK178.out 5; have hfz41_6 := blk_frozen BK178.out 6; have hfz41_7 := blk_frozen BK178.out 7; have hcz42_0 : w39.cell? ⟨gb179, 0, none⟩ = some (.int .i64 a1_0) := (blk_cell BK179.out 0).trans rfl; have hcz42_1 : w39.cell? ⟨gb179, 1, none⟩ = some (.int .i64 a1_1) := (blk_cell BK179.out 1).trans rfl; have hcz42_2 : w39.cell? ⟨gb179, 2, none⟩ = some (.slice A1_2 l1_2.length c1_2) := (blk_cell BK179.out 2).trans rfl; have hcz42_3 : w39.cell? ⟨gb179, 3, none⟩ = some (.slice A1_3 l1_3.length c1_3) := (blk_cell BK179.out 3).trans rfl; have hcz42_4 : w39.cell? ⟨gb179, 4, none⟩ = some (.slice A1_4 l1_4.length c1_4) := (blk_cell BK179.out 4).trans rfl; have hcz42_5 : w39.cell? ⟨gb179, 5, none⟩ = some (.int .i64 a1_5) := (blk_cell BK179.out 5).trans rfl; have hcz42_6 : w39.cell? ⟨gb179, 6, none⟩ = some (.int .i64 a1_6) := (blk_cell BK179.out 6).trans rfl; have hcz42_7 : w39.cell? ⟨gb179, 7, none⟩ = some (.int .i64 a1_7) := (blk_cell BK179.out 7).trans rfl; have hfz42_0 := blk_frozen BK179.out 0; have hfz42_1 := blk_frozen BK179.out 1; have hfz42_2 := blk_frozen BK179.out 2; have hfz42_3 := blk_frozen BK179.out 3; have hfz42_4 := blk_frozen BK179.out 4; have hfz42_5 := blk_frozen BK179.out 5; have hfz42_6 := blk_frozen BK179.out 6; have hfz42_7 := blk_frozen BK179.out 7) | (go_at_call 9; (with_reducible refine (shibbolethlaw05_same.calls k _ _ l0_2 _ _ l1_2 false _ ?side1 ?side2 ?side3 ?side4 A5.out).mono ?_); (case side1 => repeat (first | exact (Kd.C_below HR0_2.out HB.out) | exact HR0_2.out | (with_reducible refine Kd.C_alloc ?_ _) | (with_reducible refine Kd.C_drewN ?_ _) | (with_reducible refine Kd.C_drew ?_))); (case side2 => exact HC0_2.out); (case side3 => repeat (first | exact (Kd.C_below HR1_2.out HB.out) | exact HR1_2.out | (with_reducible refine Kd.C_alloc ?_ _) | (with_reducible refine Kd.C_drewN ?_ _) | (with_reducible refine Kd.C_drew ?_))); (case side4 => exact HC1_2.out); rintro e w' ⟨rfl, ⟨nd, rfl⟩⟩))
    go_ret
    lg62_
  ·rw [if_neg c4] at H
   have c4b0 : (a0_1 == a1_1) = false := beq_eq_false_iff_ne.mpr c4
   have c4b1 : (a0_1 != a1_1) = true := bne_iff_ne.mpr c4
   obtain rfl := Option.some.inj H
   go_enter Tryd.func8, Tryd.ntmps8
   go_wp2_with (first | ((with_reducible refine gate_dst (N := 2) rfl ?_); refine box_event ?hg (N := 2) ?hd (cs := #[.int .i64 a0_0, .int .i64 a0_1, .slice A0_2 l0_2.length c0_2, .slice A0_3 l0_3.length c0_3, .slice A0_4 l0_4.length c0_4, .int .i64 a0_5, .int .i64 a0_6, .int .i64 a0_7]) (t := 33) ?hr ?_; (case hd => rfl); (case hg => rfl); (case hr => first | (go_simp; done) | (go_simp; rfl)); intro gb178 hg w43 hbox hb; have n0_ := Aside0.mk (below_step (by qc0_) hb); have n1_ := Aside0.mk (hbox); have n2_ := Aside0.mk ((pg63_)); have n3_ := Aside0.mk ((pg63_)); clear HB; have HB := n0_; have BK178 := n1_; have GW178 := n2_; have GE178 := n3_; clear n0_ n1_ n2_ n3_; clear hb hbox hg) | ((with_reducible refine gate_dst (N := 3) rfl ?_); refine box_event ?hg (N := 3) ?hd (cs := #[.int .i64 a1_0, .int .i64 a1_1, .slice A1_2 l1_2.length c1_2, .slice A1_3 l1_3.length c1_3, .slice A1_4 l1_4.length c1_4, .int .i64 a1_5, .int .i64 a1_6, .int .i64 a1_7]) (t := 28) ?hr ?_; (case hd => rfl); (case hg => rfl); (case hr => first | (go_simp; done) | (go_simp; rfl)); intro gb179 hg w44 hbox hb; have n0_ := Aside0.mk (blk_below (g := gb178) (o := (og60_)) (by qk_; exact BK178.out) hb); have n1_ := Aside0.mk (below_step (by qb1_ GE178) hb); have n2_ := Aside0.mk (hbox); have n3_ := Aside0.mk ((pg62_)); have n4_ := Aside0.mk ((pg62_)); have n5_ := Aside0.mk ((pg64_)); have n6_ := Aside0.mk ((pg65_)); clear BK178; clear HB; have BK178 := n0_; have HB := n1_; have BK179 := n2_; have GW179 := n3_; have GE179 := n4_; have NB178_179 := n5_; have NB179_178 := n6_; clear n0_ n1_ n2_ n3_ n4_ n5_ n6_; clear hb hbox hg; have hnb45 := NB178_179.out; have hnc45 := NB179_178.out; have hcz46_0 : w44.cell? ⟨gb178, 0, none⟩ = some (.int .i64 a0_0) := (blk_cell BK178.out 0).trans rfl; have hcz46_1 : w44.cell? ⟨gb178, 1, none⟩ = some (.int .i64 a0_1) := (blk_cell BK178.out 1).trans rfl; have hcz46_2 : w44.cell? ⟨gb178, 2, none⟩ = some (.slice A0_2 l0_2.length c0_2) := (blk_cell BK178.out 2).trans rfl; have hcz46_3 : w44.cell? ⟨gb178, 3, none⟩ = some (.slice A0_3 l0_3.length c0_3) := (blk_cell BK178.out 3).trans rfl; have hcz46_4 : w44.cell? ⟨gb178, 4, none⟩ = some (.slice A0_4 l0_4.length c0_4) := (blk_cell BK178.out 4).trans rfl; have hcz46_5 : w44.cell? ⟨gb178, 5, none⟩ = some (.int .i64 a0_5) := (blk_cell BK178.out 5).trans rfl; have hcz46_6 : w44.cell? ⟨gb178, 6, none⟩ = some (.int .i64 a0_6) := (blk_cell BK178.out 6).trans rfl; have hcz46_7 : w44.cell? ⟨gb178, 7, none⟩ = some (.int .i64 a0_7) := (blk_cell BK178.out 7).trans rfl; have hfz46_0 := blk_frozen BK178.out 0; have hfz46_1 := blk_frozen BK178.out 1; have hfz46_2 := blk_frozen BK178.out 2; have hfz46_3 := blk_frozen BK178.out 3; have hfz46_4 := blk_frozen BK178.out 4; have hfz46_5 := blk_frozen BK178.out 5; have hfz46_6 := blk_frozen BK178.out 6; have hfz46_7 := blk_frozen BK178.out 7; have hcz47_0 : w44.cell? ⟨gb179, 0, none⟩ = some (.int .i64 a1_0) := (blk_cell BK179.out 0).trans rfl; have hcz47_1 : w44.cell? ⟨gb179, 1, none⟩ = some (.int .i64 a1_1) := (blk_cell BK179.out 1).trans rfl; have hcz47_2 : w44.cell? ⟨gb179, 2, none⟩ = some (.slice A1_2 l1_2.length c1_2) := (blk_cell BK179.out 2).trans rfl; have hcz47_3 : w44.cell? ⟨gb179, 3, none⟩ = some (.slice A1_3 l1_3.length c1_3) := (blk_cell BK179.out 3).trans rfl; have hcz47_4 : w44.cell? ⟨gb179, 4, none⟩ = some (.slice A1_4 l1_4.length c1_4) := (blk_cell BK179.out 4).trans rfl; have hcz47_5 : w44.cell? ⟨gb179, 5, none⟩ = some (.int .i64 a1_5) := (blk_cell BK179.out 5).trans rfl; have hcz47_6 : w44.cell? ⟨gb179, 6, none⟩ = some (.int .i64 a1_6) := (blk_cell BK179.out 6).trans rfl; have hcz47_7 : w44.cell? ⟨gb179, 7, none⟩ = some (.int .i64 a1_7) := (blk_cell BK179.out 7).trans rfl; have hfz47_0 := blk_frozen BK179.out 0; have hfz47_1 := blk_frozen BK179.out 1; have hfz47_2 := blk_frozen BK179.out 2; have hfz47_3 := blk_frozen BK179.out 3; have hfz47_4 := blk_frozen BK179.out 4; have hfz47_5 := blk_frozen BK179.out 5; have hfz47_6 := blk_frozen BK179.out 6; have hfz47_7 := blk_frozen BK179.out 7))
   go_ret
   lg62_
 ·rw [if_neg c3] at H
  have c3b0 : (a0_0 == a1_0) = false := beq_eq_false_iff_ne.mpr c3
  have c3b1 : (a0_0 != a1_0) = true := bne_iff_ne.mpr c3
  obtain rfl := Option.some.inj H
  go_enter Tryd.func8, Tryd.ntmps8
  go_wp2_with (first | ((with_reducible refine gate_dst (N := 2) rfl ?_); refine box_event ?hg (N := 2) ?hd (cs := #[.int .i64 a0_0, .int .i64 a0_1, .slice A0_2 l0_2.length c0_2, .slice A0_3 l0_3.length c0_3, .slice A0_4 l0_4.length c0_4, .int .i64 a0_5, .int .i64 a0_6, .int .i64 a0_7]) (t := 33) ?hr ?_; (case hd => rfl); (case hg => rfl); (case hr => first | (go_simp; done) | (go_simp; rfl)); intro gb178 hg w48 hbox hb; have n0_ := Aside0.mk (below_step (by qc0_) hb); have n1_ := Aside0.mk (hbox); have n2_ := Aside0.mk ((pg63_)); have n3_ := Aside0.mk ((pg63_)); clear HB; have HB := n0_; have BK178 := n1_; have GW178 := n2_; have GE178 := n3_; clear n0_ n1_ n2_ n3_; clear hb hbox hg) | ((with_reducible refine gate_dst (N := 3) rfl ?_); refine box_event ?hg (N := 3) ?hd (cs := #[.int .i64 a1_0, .int .i64 a1_1, .slice A1_2 l1_2.length c1_2, .slice A1_3 l1_3.length c1_3, .slice A1_4 l1_4.length c1_4, .int .i64 a1_5, .int .i64 a1_6, .int .i64 a1_7]) (t := 28) ?hr ?_; (case hd => rfl); (case hg => rfl); (case hr => first | (go_simp; done) | (go_simp; rfl)); intro gb179 hg w49 hbox hb; have n0_ := Aside0.mk (blk_below (g := gb178) (o := (og60_)) (by qk_; exact BK178.out) hb); have n1_ := Aside0.mk (below_step (by qb1_ GE178) hb); have n2_ := Aside0.mk (hbox); have n3_ := Aside0.mk ((pg62_)); have n4_ := Aside0.mk ((pg62_)); have n5_ := Aside0.mk ((pg64_)); have n6_ := Aside0.mk ((pg65_)); clear BK178; clear HB; have BK178 := n0_; have HB := n1_; have BK179 := n2_; have GW179 := n3_; have GE179 := n4_; have NB178_179 := n5_; have NB179_178 := n6_; clear n0_ n1_ n2_ n3_ n4_ n5_ n6_; clear hb hbox hg; have hnb50 := NB178_179.out; have hnc50 := NB179_178.out; have hcz51_0 : w49.cell? ⟨gb178, 0, none⟩ = some (.int .i64 a0_0) := (blk_cell BK178.out 0).trans rfl; have hcz51_1 : w49.cell? ⟨gb178, 1, none⟩ = some (.int .i64 a0_1) := (blk_cell BK178.out 1).trans rfl; have hcz51_2 : w49.cell? ⟨gb178, 2, none⟩ = some (.slice A0_2 l0_2.length c0_2) := (blk_cell BK178.out 2).trans rfl; have hcz51_3 : w49.cell? ⟨gb178, 3, none⟩ = some (.slice A0_3 l0_3.length c0_3) := (blk_cell BK178.out 3).trans rfl; have hcz51_4 : w49.cell? ⟨gb178, 4, none⟩ = some (.slice A0_4 l0_4.length c0_4) := (blk_cell BK178.out 4).trans rfl; have hcz51_5 : w49.cell? ⟨gb178, 5, none⟩ = some (.int .i64 a0_5) := (blk_cell BK178.out 5).trans rfl; have hcz51_6 : w49.cell? ⟨gb178, 6, none⟩ = some (.int .i64 a0_6) := (blk_cell BK178.out 6).trans rfl; have hcz51_7 : w49.cell? ⟨gb178, 7, none⟩ = some (.int .i64 a0_7) := (blk_cell BK178.out 7).trans rfl; have hfz51_0 := blk_frozen BK178.out 0; have hfz51_1 := blk_frozen BK178.out 1; have hfz51_2 := blk_frozen BK178.out 2; have hfz51_3 := blk_frozen BK178.out 3; have hfz51_4 := blk_frozen BK178.out 4; have hfz51_5 := blk_frozen BK178.out 5; have hfz51_6 := blk_frozen BK178.out 6; have hfz51_7 := blk_frozen BK178.out 7; have hcz52_0 : w49.cell? ⟨gb179, 0, none⟩ = some (.int .i64 a1_0) := (blk_cell BK179.out 0).trans rfl; have hcz52_1 : w49.cell? ⟨gb179, 1, none⟩ = some (.int .i64 a1_1) := (blk_cell BK179.out 1).trans rfl; have hcz52_2 : w49.cell? ⟨gb179, 2, none⟩ = some (.slice A1_2 l1_2.length c1_2) := (blk_cell BK179.out 2).trans rfl; have hcz52_3 : w49.cell? ⟨gb179, 3, none⟩ = some (.slice A1_3 l1_3.length c1_3) := (blk_cell BK179.out 3).trans rfl; have hcz52_4 : w49.cell? ⟨gb179, 4, none⟩ = some (.slice A1_4 l1_4.length c1_4) := (blk_cell BK179.out 4).trans rfl; have hcz52_5 : w49.cell? ⟨gb179, 5, none⟩ = some (.int .i64 a1_5) := (blk_cell BK179.out 5).trans rfl; have hcz52_6 : w49.cell? ⟨gb179, 6, none⟩ = some (.int .i64 a1_6) := (blk_cell BK179.out 6).trans rfl; have hcz52_7 : w49.cell? ⟨gb179, 7, none⟩ = some (.int .i64 a1_7) := (blk_cell BK179.out 7).trans rfl; have hfz52_0 := blk_frozen BK179.out 0; have hfz52_1 := blk_frozen BK179.out 1; have hfz52_2 := blk_frozen BK179.out 2; have hfz52_3 := blk_frozen BK179.out 3; have hfz52_4 := blk_frozen BK179.out 4; have hfz52_5 := blk_frozen BK179.out 5; have hfz52_6 := blk_frozen BK179.out 6; have hfz52_7 := blk_frozen BK179.out 7))
  go_ret
  lg62_
def shibbolethlaw05_light.f (a0_0 : Int) (a0_1 : Int) (l0_2 : List Int) (l0_3 : List Int) (l0_4 : List Int) (a0_5 : Int) (a0_6 : Int) (a0_7 : Int) : Option (Bool) := if (l0_2.length : Int) ≤ 100 then (if (l0_3.length : Int) ≤ 100 then (some (decide ((l0_4.length : Int) ≤ 200))) else (some false)) else (some false)
set_option maxHeartbeats 8000000 in
set_option maxRecDepth 100000 in
theorem shibbolethlaw05_light.calls (a0_0 : Int) (a0_1 : Int) (A0_2 : Option Addr) (c0_2 : Nat) (l0_2 : List Int) (A0_3 : Option Addr) (c0_3 : Nat) (l0_3 : List Int) (A0_4 : Option Addr) (c0_4 : Nat) (l0_4 : List Int) (a0_5 : Int) (a0_6 : Int) (a0_7 : Int) (r : Bool) (w : World) (hr0_2 : Kd.C (Kd.int .u8) w A0_2 l0_2.length l0_2) (hc0_2 : l0_2.length ≤ c0_2) (hr0_3 : Kd.C (Kd.int .u8) w A0_3 l0_3.length l0_3) (hc0_3 : l0_3.length ≤ c0_3) (hr0_4 : Kd.C (Kd.int .u8) w A0_4 l0_4.length l0_4) (hc0_4 : l0_4.length ≤ c0_4) (h : shibbolethlaw05_light.f a0_0 a0_1 l0_2 l0_3 l0_4 a0_5 a0_6 a0_7 = some r) :
  Calls Tryd.prog 10 #[.agg #[.int .i64 a0_0, .int .i64 a0_1, .slice A0_2 l0_2.length c0_2, .slice A0_3 l0_3.length c0_3, .slice A0_4 l0_4.length c0_4, .int .i64 a0_5, .int .i64 a0_6, .int .i64 a0_7]] w fun e w' => e = .returned (.bool r) ∧ Below w.heap.size w w' := by
 have hu28 := Tryd.underlying28
 have HR0_2 := Aside0.mk hr0_2
 have HC0_2 := Aside0.mk hc0_2
 clear hr0_2 hc0_2
 have HR0_3 := Aside0.mk hr0_3
 have HC0_3 := Aside0.mk hc0_3
 clear hr0_3 hc0_3
 have HR0_4 := Aside0.mk hr0_4
 have HC0_4 := Aside0.mk hc0_4
 clear hr0_4 hc0_4
 have HB := Aside0.mk (Below.refl w.heap.size w)
 have H : (if (l0_2.length : Int) ≤ 100 then (if (l0_3.length : Int) ≤ 100 then (some (decide ((l0_4.length : Int) ≤ 200))) else (some false)) else (some false)) = some r := h
 clear h
 by_cases c2 : (l0_2.length : Int) ≤ 100
 ·rw [if_pos c2] at H
  have c2b0 : decide ((l0_2.length : Int) ≤ 100) = true := decide_eq_true c2
  have c2b1 : decide (l0_2.length ≤ 100) = true := decide_eq_true (by omega)
  clear c2
  by_cases c3 : (l0_3.length : Int) ≤ 100
  ·rw [if_pos c3] at H
   have c3b0 : decide ((l0_3.length : Int) ≤ 100) = true := decide_eq_true c3
   have c3b1 : decide (l0_3.length ≤ 100) = true := decide_eq_true (by omega)
   clear c3
   obtain rfl := Option.some.inj H
   go_enter Tryd.func10, Tryd.ntmps10
   go_wp2_with (first | ((with_reducible refine gate_dst (N := 1) rfl ?_); (try (refine gate_guard (by rfl) ?_; dsimp only)); refine box_event ?hg (N := 1) ?hd (cs := #[.int .i64 a0_0, .int .i64 a0_1, .slice A0_2 l0_2.length c0_2, .slice A0_3 l0_3.length c0_3, .slice A0_4 l0_4.length c0_4, .int .i64 a0_5, .int .i64 a0_6, .int .i64 a0_7]) (t := 28) ?hr ?_; (case hd => rfl); (case hg => rfl); (case hr => first | (go_simp; done) | (go_simp; rfl)); intro gb183 hg w4 hbox hb; have n0_ := Aside0.mk (below_step (by qc0_) hb); have n1_ := Aside0.mk (hbox); have n2_ := Aside0.mk ((pg69_)); have n3_ := Aside0.mk ((pg69_)); clear HB; have HB := n0_; have BK183 := n1_; have GW183 := n2_; have GE183 := n3_; clear n0_ n1_ n2_ n3_; clear hb hbox hg; have hcz5_0 : w4.cell? ⟨gb183, 0, none⟩ = some (.int .i64 a0_0) := (blk_cell BK183.out 0).trans rfl; have hcz5_1 : w4.cell? ⟨gb183, 1, none⟩ = some (.int .i64 a0_1) := (blk_cell BK183.out 1).trans rfl; have hcz5_2 : w4.cell? ⟨gb183, 2, none⟩ = some (.slice A0_2 l0_2.length c0_2) := (blk_cell BK183.out 2).trans rfl; have hcz5_3 : w4.cell? ⟨gb183, 3, none⟩ = some (.slice A0_3 l0_3.length c0_3) := (blk_cell BK183.out 3).trans rfl; have hcz5_4 : w4.cell? ⟨gb183, 4, none⟩ = some (.slice A0_4 l0_4.length c0_4) := (blk_cell BK183.out 4).trans rfl; have hcz5_5 : w4.cell? ⟨gb183, 5, none⟩ = some (.int .i64 a0_5) := (blk_cell BK183.out 5).trans rfl; have hcz5_6 : w4.cell? ⟨gb183, 6, none⟩ = some (.int .i64 a0_6) := (blk_cell BK183.out 6).trans rfl; have hcz5_7 : w4.cell? ⟨gb183, 7, none⟩ = some (.int .i64 a0_7) := (blk_cell BK183.out 7).trans rfl; have hfz5_0 := blk_frozen BK183.out 0; have hfz5_1 := blk_frozen BK183.out 1; have hfz5_2 := blk_frozen BK183.out 2; have hfz5_3 := blk_frozen BK183.out 3; have hfz5_4 := blk_frozen BK183.out 4; have hfz5_5 := blk_frozen BK183.out 5; have hfz5_6 := blk_frozen BK183.out 6; have hfz5_7 := blk_frozen BK183.out 7))
   go_ret
   lg64_
  ·rw [if_neg c3] at H
   have c3b0 : decide ((l0_3.length : Int) ≤ 100) = false := decide_eq_false c3
   have c3b1 : decide (l0_3.length ≤ 100) = false := decide_eq_false (by omega)
   clear c3
   obtain rfl := Option.some.inj H
   go_enter Tryd.func10, Tryd.ntmps10
   go_wp2_with (first | ((with_reducible refine gate_dst (N := 1) rfl ?_); (try (refine gate_guard (by rfl) ?_; dsimp only)); refine box_event ?hg (N := 1) ?hd (cs := #[.int .i64 a0_0, .int .i64 a0_1, .slice A0_2 l0_2.length c0_2, .slice A0_3 l0_3.length c0_3, .slice A0_4 l0_4.length c0_4, .int .i64 a0_5, .int .i64 a0_6, .int .i64 a0_7]) (t := 28) ?hr ?_; (case hd => rfl); (case hg => rfl); (case hr => first | (go_simp; done) | (go_simp; rfl)); intro gb183 hg w6 hbox hb; have n0_ := Aside0.mk (below_step (by qc0_) hb); have n1_ := Aside0.mk (hbox); have n2_ := Aside0.mk ((pg69_)); have n3_ := Aside0.mk ((pg69_)); clear HB; have HB := n0_; have BK183 := n1_; have GW183 := n2_; have GE183 := n3_; clear n0_ n1_ n2_ n3_; clear hb hbox hg; have hcz7_0 : w6.cell? ⟨gb183, 0, none⟩ = some (.int .i64 a0_0) := (blk_cell BK183.out 0).trans rfl; have hcz7_1 : w6.cell? ⟨gb183, 1, none⟩ = some (.int .i64 a0_1) := (blk_cell BK183.out 1).trans rfl; have hcz7_2 : w6.cell? ⟨gb183, 2, none⟩ = some (.slice A0_2 l0_2.length c0_2) := (blk_cell BK183.out 2).trans rfl; have hcz7_3 : w6.cell? ⟨gb183, 3, none⟩ = some (.slice A0_3 l0_3.length c0_3) := (blk_cell BK183.out 3).trans rfl; have hcz7_4 : w6.cell? ⟨gb183, 4, none⟩ = some (.slice A0_4 l0_4.length c0_4) := (blk_cell BK183.out 4).trans rfl; have hcz7_5 : w6.cell? ⟨gb183, 5, none⟩ = some (.int .i64 a0_5) := (blk_cell BK183.out 5).trans rfl; have hcz7_6 : w6.cell? ⟨gb183, 6, none⟩ = some (.int .i64 a0_6) := (blk_cell BK183.out 6).trans rfl; have hcz7_7 : w6.cell? ⟨gb183, 7, none⟩ = some (.int .i64 a0_7) := (blk_cell BK183.out 7).trans rfl; have hfz7_0 := blk_frozen BK183.out 0; have hfz7_1 := blk_frozen BK183.out 1; have hfz7_2 := blk_frozen BK183.out 2; have hfz7_3 := blk_frozen BK183.out 3; have hfz7_4 := blk_frozen BK183.out 4; have hfz7_5 := blk_frozen BK183.out 5; have hfz7_6 := blk_frozen BK183.out 6; have hfz7_7 := blk_frozen BK183.out 7))
   go_ret
   lg64_
 ·rw [if_neg c2] at H
  have c2b0 : decide ((l0_2.length : Int) ≤ 100) = false := decide_eq_false c2
  have c2b1 : decide (l0_2.length ≤ 100) = false := decide_eq_false (by omega)
  clear c2
  obtain rfl := Option.some.inj H
  go_enter Tryd.func10, Tryd.ntmps10
  go_wp2_with (first | ((with_reducible refine gate_dst (N := 1) rfl ?_); (try (refine gate_guard (by rfl) ?_; dsimp only)); refine box_event ?hg (N := 1) ?hd (cs := #[.int .i64 a0_0, .int .i64 a0_1, .slice A0_2 l0_2.length c0_2, .slice A0_3 l0_3.length c0_3, .slice A0_4 l0_4.length c0_4, .int .i64 a0_5, .int .i64 a0_6, .int .i64 a0_7]) (t := 28) ?hr ?_; (case hd => rfl); (case hg => rfl); (case hr => first | (go_simp; done) | (go_simp; rfl)); intro gb183 hg w8 hbox hb; have n0_ := Aside0.mk (below_step (by qc0_) hb); have n1_ := Aside0.mk (hbox); have n2_ := Aside0.mk ((pg69_)); have n3_ := Aside0.mk ((pg69_)); clear HB; have HB := n0_; have BK183 := n1_; have GW183 := n2_; have GE183 := n3_; clear n0_ n1_ n2_ n3_; clear hb hbox hg; have hcz9_0 : w8.cell? ⟨gb183, 0, none⟩ = some (.int .i64 a0_0) := (blk_cell BK183.out 0).trans rfl; have hcz9_1 : w8.cell? ⟨gb183, 1, none⟩ = some (.int .i64 a0_1) := (blk_cell BK183.out 1).trans rfl; have hcz9_2 : w8.cell? ⟨gb183, 2, none⟩ = some (.slice A0_2 l0_2.length c0_2) := (blk_cell BK183.out 2).trans rfl; have hcz9_3 : w8.cell? ⟨gb183, 3, none⟩ = some (.slice A0_3 l0_3.length c0_3) := (blk_cell BK183.out 3).trans rfl; have hcz9_4 : w8.cell? ⟨gb183, 4, none⟩ = some (.slice A0_4 l0_4.length c0_4) := (blk_cell BK183.out 4).trans rfl; have hcz9_5 : w8.cell? ⟨gb183, 5, none⟩ = some (.int .i64 a0_5) := (blk_cell BK183.out 5).trans rfl; have hcz9_6 : w8.cell? ⟨gb183, 6, none⟩ = some (.int .i64 a0_6) := (blk_cell BK183.out 6).trans rfl; have hcz9_7 : w8.cell? ⟨gb183, 7, none⟩ = some (.int .i64 a0_7) := (blk_cell BK183.out 7).trans rfl; have hfz9_0 := blk_frozen BK183.out 0; have hfz9_1 := blk_frozen BK183.out 1; have hfz9_2 := blk_frozen BK183.out 2; have hfz9_3 := blk_frozen BK183.out 3; have hfz9_4 := blk_frozen BK183.out 4; have hfz9_5 := blk_frozen BK183.out 5; have hfz9_6 := blk_frozen BK183.out 6; have hfz9_7 := blk_frozen BK183.out 7))
  go_ret
  lg64_
end Go.Proofs.YtpihkmpcnkhnfaaDoor.QHe
