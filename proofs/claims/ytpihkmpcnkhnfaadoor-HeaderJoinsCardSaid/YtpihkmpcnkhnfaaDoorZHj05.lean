/- A part of the proof of the law HeaderJoins: QHex2. -/
import Derived.Test.YtpihkmpcnkhnfaaDoorZHj03
import Derived.Test.YtpihkmpcnkhnfaaDoorZHj04
import Derived.Test.YtpihkmpcnkhnfaaDoorZHj02
namespace Go.Proofs.YtpihkmpcnkhnfaaDoor.QHe
open Go.RowKit Go.Proofs.YtpihkmpcnkhnfaaDoorW.PrintWords Go.Proofs.YtpihkmpcnkhnfaaDoorW.PrintLast Go.Proofs.YtpihkmpcnkhnfaaDoorW.PrintMore
attribute [local go_sem] max2_int min2_int max_two min_two max_three min_three max_four min_four
set_option linter.unusedVariables false
set_option linter.unusedSimpArgs false
open Go.Proofs.YtpihkmpcnkhnfaaDoor.Gv (TB TB.below TB.alloc TB.drew TB.drewN)
open Go.Proofs.YtpihkmpcnkhnfaaDoor.Gw (slices_Concat_byte_byte.f slices_Concat_byte_byte.calls)
open Go.Proofs.YtpihkmpcnkhnfaaDoor.QVa (varint_Append.f varint_Append.calls varint_Append.mono varint_Give.f varint_Give.calls varint_Give.mono)
set_option hygiene false
local macro "of50_" : term => `(.cells #[.int .i64 a0_0, .int .i64 a0_1, .slice A0_2 l0_2.length c0_2, .slice A0_3 l0_3.length c0_3, .slice A0_4 l0_4.length c0_4, .int .i64 a0_5, .int .i64 a0_6, .int .i64 a0_7] 33 (0, 0))
local macro "pf50_" : term => `((if a0_0 = 0 then ((varint_Give.f kj2 t143 l0_4).bind fun t146 => ((varint_Append.f kj2 t146 (wrap64 (a0_7 + a1))).bind fun t149 => ((header_big.f kj2 a0_6 a0_7).bind fun t152 => (if t149.length + t152.length < 140737488355328 then (some (t149 ++ t152)) else (none))))) else ((varint_Append.f kj2 t143 (wrap64 (a0_7 + a1))).bind fun t158 => ((header_big.f kj2 a0_6 a0_7).bind fun t161 => (if t158.length + t161.length < 140737488355328 then (some (t158 ++ t161)) else (none))))))
local macro "pf51_" : term => `((by first | exact ⟨(.inr (hk.1.1)), hk.2⟩ | exact hk | grind))
local macro "pf52_" : term => `((by (try simp only [List.map_toArray, List.map_cons, List.map_nil]); first | done | rfl | (simp only [List.length_drop, List.length_take]; rfl)))
local macro "pf53_" : term => `((by qV_; exact Kd.V_mono HO_115002.out (fun _ hk => (by first | exact ⟨hk.1.1, ⟨hk.2, hk.1.2⟩⟩ | exact hk | grind))))
local macro "pf54_" : term => `((if t115 = true then (if a1 < 0 then (header_Write.j0 k a1 true a0_0 a0_1 l0_2 l0_3 l0_4 a0_5 a0_6 a0_7) else (header_Write.j0 k a1 (decide (a1 > 16384)) a0_0 a0_1 l0_2 l0_3 l0_4 a0_5 a0_6 a0_7)) else (header_Write.j0 k a1 true a0_0 a0_1 l0_2 l0_3 l0_4 a0_5 a0_6 a0_7)))
local macro "pf55_" : term => `((by qV_; exact Kd.V_mono HO_115002.out (fun _ hk => (by first | exact ⟨hk.1.1, ⟨hk.1.2.1, ⟨hk.2, hk.1.2.2⟩⟩⟩ | exact hk | grind))))
local macro "pf56_" : term => `((by first | exact hk.1 | exact hk | grind))
local macro "pf57_" : term => `((if t149.length + t152.length < 140737488355328 then (some (t149 ++ t152)) else (none)))
local macro "pf58_" : term => `((if t158.length + t161.length < 140737488355328 then (some (t158 ++ t161)) else (none)))
local macro "pf59_" : term => `((by first | exact ⟨hk.1.1, ⟨hk.1.2, hk.2⟩⟩ | exact hk | grind))
local macro "lf50_" : tactic => `(tactic| (replace H := Option.bind_eq_some_iff.mp H))
local macro "lf51_" : tactic => `(tactic| (have n0_ := Aside0.mk (Kd.V_drew HO_115002.out)))
local macro "lf52_" : tactic => `(tactic| (rintro b a w' ⟨v117, v120, v123, v126, m19_, ha, Q_HO_115002, Q_BK114, Q_HB, Q_HO118, Q_HO121, Q_HO124, Q_HO127, Q_X19_⟩ hb_ hon hoff))
local macro "lf53_" : tactic => `(tactic| (have hc0_ : w'.cell? ⟨gb114, 0, none⟩ = some (.int .i64 a0_0) := (blk_cell BK114.out 0).trans rfl))
local macro "lf54_" : tactic => `(tactic| (have hc1_ : w'.cell? ⟨gb114, 1, none⟩ = some (.int .i64 a0_1) := (blk_cell BK114.out 1).trans rfl))
local macro "lf55_" : tactic => `(tactic| (have hc2_ : w'.cell? ⟨gb114, 2, none⟩ = some (.slice A0_2 l0_2.length c0_2) := (blk_cell BK114.out 2).trans rfl))
local macro "lf56_" : tactic => `(tactic| (have hc3_ : w'.cell? ⟨gb114, 3, none⟩ = some (.slice A0_3 l0_3.length c0_3) := (blk_cell BK114.out 3).trans rfl))
local macro "lf57_" : tactic => `(tactic| (have hc4_ : w'.cell? ⟨gb114, 4, none⟩ = some (.slice A0_4 l0_4.length c0_4) := (blk_cell BK114.out 4).trans rfl))
local macro "lf58_" : tactic => `(tactic| (have hc5_ : w'.cell? ⟨gb114, 5, none⟩ = some (.int .i64 a0_5) := (blk_cell BK114.out 5).trans rfl))
local macro "lf59_" : tactic => `(tactic| (have hc6_ : w'.cell? ⟨gb114, 6, none⟩ = some (.int .i64 a0_6) := (blk_cell BK114.out 6).trans rfl))
local macro "lf510_" : tactic => `(tactic| (have hc7_ : w'.cell? ⟨gb114, 7, none⟩ = some (.int .i64 a0_7) := (blk_cell BK114.out 7).trans rfl))
local macro "lf511_" : tactic => `(tactic| (refine value_ (w1 := w') (v := .int .i64 a0_7) (by rfl) rfl ?_ ?_))
local macro "lf512_" : tactic => `(tactic| (have n2_ := Aside0.mk (blk_below (g := gb114) (o := (of50_)) (by qk_; exact BK114.out) hb)))
local macro "lf513_" : tactic => `(tactic| (have n3_ := Aside0.mk (below_step (by qb1_ GE114) hb)))
local macro "lf514_" : tactic => `(tactic| (refine value_ (w1 := w') (v := .slice A0_2 l0_2.length c0_2) (by rfl) rfl ?_ ?_))
local macro "lf515_" : tactic => `(tactic| (have n0_ := Aside0.mk (Kd.V_elder' (by qV_; exact HO_115002.out) (Kd.R_base ho0) hb)))
local macro "lf516_" : tactic => `(tactic| (have n1_ := Aside0.mk (Kd.R_lower (Kd.R_newM (M := fun k_ => (w.heap.size ≤ k_)) ho0 (below_size (by qb1_ GE114)) (fun k_ h_ => h_)) (below_size (by qb1_ GE114)))))
local macro "lf517_" : tactic => `(tactic| (have n2_ := Aside0.mk (Kd.R_lower (Kd.R_newM (M := fun k_ => (w.heap.size ≤ k_)) ho0 (below_size (by qb1_ GE114)) (fun k_ h_ => h_)) (below_size (by qb1_ GE114)))))
local macro "lf518_" : tactic => `(tactic| (have n3_ := Aside0.mk (blk_below (g := gb114) (o := (of50_)) (by qk_; exact BK114.out) hb)))
local macro "lf519_" : tactic => `(tactic| (have n4_ := Aside0.mk (below_step (by qb1_ GE114) hb)))
local macro "lf520_" : tactic => `(tactic| (refine start_ (n := 22) (S := fun w' => True) (ds := []) #[false, false, false, false, false, false, false, false, false, false, false, false, false, false, false, false, false, false, false, false, false, false] (by kernel_rfl) rfl rfl trivial (fun hHeld => ?_); refine with_tabW header_Write.tab5 header_Write.bits5 (fun HT_ HW_ => ?_)))
local macro "lf521_" : tactic => `(tactic| (refine pure_ (i := 0) (N := some 39) (v := ?_) (a' := ?_) #[true, false, false, false, false, false, false, false, false, false, false, false, false, false, false, false, false, false, false, false, false, false] rfl rfl (any_of HT_.out (by kernel_rfl)) (fun _ _ _ h => h) (Or.inl ⟨by rfl, ?_⟩) ?_ ?_))
local macro "lf522_" : tactic => `(tactic| (refine pure_ (i := 4) (N := some 43) (v := ?_) (a' := ?_) #[true, false, false, false, true, false, false, false, false, false, false, false, false, false, false, false, false, false, false, false, false, false] rfl rfl (any_of HT_.out (by kernel_rfl)) (fun _ _ _ h => h) (Or.inl ⟨by rfl, ?_⟩) ?_ ?_))
local macro "lf523_" : tactic => `(tactic| (refine pure_ (i := 10) (N := some 49) (v := ?_) (a' := ?_) #[true, false, false, false, true, false, false, false, false, false, true, false, false, false, false, false, false, false, false, false, false, false] rfl rfl (any_of HT_.out (by kernel_rfl)) (fun _ _ _ h => h) (Or.inl ⟨by rfl, ?_⟩) ?_ ?_))
local macro "lf524_" : tactic => `(tactic| (refine pure_ (i := 13) (N := some 52) (v := ?_) (a' := ?_) #[true, false, false, false, true, false, false, false, false, false, true, false, false, true, false, false, false, false, false, false, false, false] rfl rfl (any_of HT_.out (by kernel_rfl)) (fun _ _ _ h => h) (Or.inl ⟨by rfl, ?_⟩) ?_ ?_))
local macro "lf525_" : tactic => `(tactic| (refine pure_ (i := 16) (N := some 55) (v := ?_) (a' := ?_) #[true, false, false, false, true, false, false, false, false, false, true, false, false, true, false, false, true, false, false, false, false, false] rfl rfl (any_of HT_.out (by kernel_rfl)) (fun _ _ _ h => h) (Or.inl ⟨by rfl, ?_⟩) ?_ ?_))
local macro "lf526_" : tactic => `(tactic| (refine inv_at [1, 2, 3, 5, 6, 7, 8, 9, 11, 12, 14, 15, 17, 18, 19, 20, 21] (fun a0_ b a w' => ∃ (v129 : Value) (v132 : Value) (v135 : Value) (v138 : Value) (v141 : Value) (v144 : Value) (m21_ : Value), a = putSel a0_ b [(1, 40, .int .i64 a0_0), (2, 41, .int .i64 (wrap64 (16 * a0_0))), (3, 42, .int .i64 (wrap64 (192 + (wrap64 (16 * a0_0))))), (5, 44, .int .i64 a0_7), (6, 45, .int .i64 (wrap64 ((wrap64 (192 + (wrap64 (16 * a0_0)))) + a0_7))), (7, 46, .int .i64 (wrap64 ((wrap64 ((wrap64 (192 + (wrap64 (16 * a0_0)))) + a0_7)) - 1))), (8, 47, .int .u8 ((wrap64 ((wrap64 ((wrap64 (192 + (wrap64 (16 * a0_0)))) + a0_7)) - 1)) % 256)), (9, 48, v129), (11, 50, .int .i64 a0_1), (12, 51, v132), (14, 53, .slice A0_2 l0_2.length c0_2), (15, 54, v135), (17, 56, .slice A0_3 l0_3.length c0_3), (18, 57, v138), (19, 58, v141), (20, 59, v144), (21, 5, m21_)] ∧ (Kd.V (Kd.int .u8) 5 w' w.heap.size (fun k_ => (P0_2_ k_ ∨ w.heap.size ≤ k_) ∧ k_ ≠ gb114) (.slice A0_2 l0_2.length c0_2) l0_2) ∧ (w'.heap[gb114]? = some ((of50_))) ∧ (Below w.heap.size w w') ∧ (b 9 = true → b 19 = false → Kd.R (Kd.int .u8) 5 w' w.heap.size (fun k_ => (w.heap.size ≤ k_)) v129 y128) ∧ (b 12 = true → b 19 = false → Kd.R (Kd.int .u8) 5 w' w.heap.size (fun k_ => (w.heap.size ≤ k_)) v132 t131) ∧ (b 15 = true → b 19 = false → Kd.R (Kd.int .u8) 5 w' w.heap.size (fun k_ => (w.heap.size ≤ k_)) v135 t134) ∧ (b 18 = true → b 19 = false → Kd.R (Kd.int .u8) 5 w' w.heap.size (fun k_ => (w.heap.size ≤ k_)) v138 t137) ∧ (b 19 = true → Kd.N (Kd.slice 5 (Kd.int .u8)) 22 w' w.heap.size (fun k_ => (P0_2_ k_ ∨ w.heap.size ≤ k_) ∧ k_ ≠ gb114) v141 y140) ∧ (b 20 = true → Kd.R (Kd.int .u8) 5 w' w.heap.size (fun k_ => (w.heap.size ≤ k_)) v144 t143) ∧ (b 21 = true → (m21_ : Value) = v144)) HT_.out HW_.out (by kernel_rfl) (by kernel_rfl) ?_ ?_ ?_))
local macro "lf527_" : tactic => `(tactic| (exact ⟨.bool false, .bool false, .bool false, .bool false, .bool false, .bool false, .bool false, by simp only [putSel, Bool.false_eq_true, if_false], HO_115002.out, BK114.out, HB.out, fun h_ => absurd h_ (by decide), fun h_ => absurd h_ (by decide), fun h_ => absurd h_ (by decide), fun h_ => absurd h_ (by decide), fun h_ => absurd h_ (by decide), fun h_ => absurd h_ (by decide), fun h_ => absurd h_ (by decide)⟩))
local macro "lf528_" : tactic => `(tactic| (rintro b a w' ⟨v129, v132, v135, v138, v141, v144, m21_, ha, Q_HO_115002, Q_BK114, Q_HB, Q_HO130, Q_HO133, Q_HO136, Q_HO139, Q_HO142, Q_HO145, Q_X21_⟩ hb_ hon hoff))
local macro "lf529_" : tactic => `(tactic| (refine hK.out _ _ ⟨v129, v132, v135, v138, v141, v144, m21_, (by rw [ha.out]; exact putSel_upk 0 hb_ rfl rfl rfl), Q_HO_115002, Q_BK114, Q_HB, fun h0_ _ => absurd ((hoff 9 (by kernel_rfl)).symm.trans h0_) (by decide), Q_HO133, Q_HO136, Q_HO139, fun h0_ => absurd ((hoff 19 (by kernel_rfl)).symm.trans h0_) (by decide), fun h0_ => absurd ((hoff 20 (by kernel_rfl)).symm.trans h0_) (by decide), fun h0_ => absurd ((hoff 21 (by kernel_rfl)).symm.trans h0_) (by decide)⟩))
local macro "lf530_" : tactic => `(tactic| (have e40 : a.tmps[40]? = some (.int .i64 a0_0) := by rw [ha]; exact putSel_on (e := (1, 40, .int .i64 a0_0)) 0 rfl rfl (hon 1 (by kernel_rfl)) rfl))
local macro "lf531_" : tactic => `(tactic| (refine hK.out _ _ ⟨v129, v132, v135, v138, v141, v144, m21_, (by rw [ha.out]; exact putSel_upk 1 hb_ rfl rfl rfl), Q_HO_115002, Q_BK114, Q_HB, fun h0_ _ => absurd ((hoff 9 (by kernel_rfl)).symm.trans h0_) (by decide), Q_HO133, Q_HO136, Q_HO139, fun h0_ => absurd ((hoff 19 (by kernel_rfl)).symm.trans h0_) (by decide), fun h0_ => absurd ((hoff 20 (by kernel_rfl)).symm.trans h0_) (by decide), fun h0_ => absurd ((hoff 21 (by kernel_rfl)).symm.trans h0_) (by decide)⟩))
local macro "lf532_" : tactic => `(tactic| (have e41 : a.tmps[41]? = some (.int .i64 (wrap64 (16 * a0_0))) := by rw [ha]; exact putSel_on (e := (2, 41, .int .i64 (wrap64 (16 * a0_0)))) 1 rfl rfl (hon 2 (by kernel_rfl)) rfl))
local macro "lf533_" : tactic => `(tactic| (refine hK.out _ _ ⟨v129, v132, v135, v138, v141, v144, m21_, (by rw [ha.out]; exact putSel_upk 2 hb_ rfl rfl rfl), Q_HO_115002, Q_BK114, Q_HB, fun h0_ _ => absurd ((hoff 9 (by kernel_rfl)).symm.trans h0_) (by decide), Q_HO133, Q_HO136, Q_HO139, fun h0_ => absurd ((hoff 19 (by kernel_rfl)).symm.trans h0_) (by decide), fun h0_ => absurd ((hoff 20 (by kernel_rfl)).symm.trans h0_) (by decide), fun h0_ => absurd ((hoff 21 (by kernel_rfl)).symm.trans h0_) (by decide)⟩))
local macro "lf534_" : tactic => `(tactic| (refine hK.out _ _ ⟨v129, v132, v135, v138, v141, v144, m21_, (by rw [ha.out]; exact putSel_upk 3 hb_ rfl rfl rfl), Q_HO_115002, Q_BK114, Q_HB, fun h0_ _ => absurd ((hoff 9 (by kernel_rfl)).symm.trans h0_) (by decide), Q_HO133, Q_HO136, Q_HO139, fun h0_ => absurd ((hoff 19 (by kernel_rfl)).symm.trans h0_) (by decide), fun h0_ => absurd ((hoff 20 (by kernel_rfl)).symm.trans h0_) (by decide), fun h0_ => absurd ((hoff 21 (by kernel_rfl)).symm.trans h0_) (by decide)⟩))
local macro "lf535_" : tactic => `(tactic| (have e42 : a.tmps[42]? = some (.int .i64 (wrap64 (192 + (wrap64 (16 * a0_0))))) := by rw [ha]; exact putSel_on (e := (3, 42, .int .i64 (wrap64 (192 + (wrap64 (16 * a0_0)))))) 2 rfl rfl (hon 3 (by kernel_rfl)) rfl))
local macro "lf536_" : tactic => `(tactic| (have e44 : a.tmps[44]? = some (.int .i64 a0_7) := by rw [ha]; exact putSel_on (e := (5, 44, .int .i64 a0_7)) 3 rfl rfl (hon 5 (by kernel_rfl)) rfl))
local macro "lf537_" : tactic => `(tactic| (refine hK.out _ _ ⟨v129, v132, v135, v138, v141, v144, m21_, (by rw [ha.out]; exact putSel_upk 4 hb_ rfl rfl rfl), Q_HO_115002, Q_BK114, Q_HB, fun h0_ _ => absurd ((hoff 9 (by kernel_rfl)).symm.trans h0_) (by decide), Q_HO133, Q_HO136, Q_HO139, fun h0_ => absurd ((hoff 19 (by kernel_rfl)).symm.trans h0_) (by decide), fun h0_ => absurd ((hoff 20 (by kernel_rfl)).symm.trans h0_) (by decide), fun h0_ => absurd ((hoff 21 (by kernel_rfl)).symm.trans h0_) (by decide)⟩))
local macro "lf538_" : tactic => `(tactic| (have e45 : a.tmps[45]? = some (.int .i64 (wrap64 ((wrap64 (192 + (wrap64 (16 * a0_0)))) + a0_7))) := by rw [ha]; exact putSel_on (e := (6, 45, .int .i64 (wrap64 ((wrap64 (192 + (wrap64 (16 * a0_0)))) + a0_7)))) 4 rfl rfl (hon 6 (by kernel_rfl)) rfl))
local macro "lf539_" : tactic => `(tactic| (refine hK.out _ _ ⟨v129, v132, v135, v138, v141, v144, m21_, (by rw [ha.out]; exact putSel_upk 5 hb_ rfl rfl rfl), Q_HO_115002, Q_BK114, Q_HB, fun h0_ _ => absurd ((hoff 9 (by kernel_rfl)).symm.trans h0_) (by decide), Q_HO133, Q_HO136, Q_HO139, fun h0_ => absurd ((hoff 19 (by kernel_rfl)).symm.trans h0_) (by decide), fun h0_ => absurd ((hoff 20 (by kernel_rfl)).symm.trans h0_) (by decide), fun h0_ => absurd ((hoff 21 (by kernel_rfl)).symm.trans h0_) (by decide)⟩))
local macro "lf540_" : tactic => `(tactic| (have e46 : a.tmps[46]? = some (.int .i64 (wrap64 ((wrap64 ((wrap64 (192 + (wrap64 (16 * a0_0)))) + a0_7)) - 1))) := by rw [ha]; exact putSel_on (e := (7, 46, .int .i64 (wrap64 ((wrap64 ((wrap64 (192 + (wrap64 (16 * a0_0)))) + a0_7)) - 1)))) 5 rfl rfl (hon 7 (by kernel_rfl)) rfl))
local macro "lf541_" : tactic => `(tactic| (refine hK.out _ _ ⟨v129, v132, v135, v138, v141, v144, m21_, (by rw [ha.out]; exact putSel_upk 6 hb_ rfl rfl rfl), Q_HO_115002, Q_BK114, Q_HB, fun h0_ _ => absurd ((hoff 9 (by kernel_rfl)).symm.trans h0_) (by decide), Q_HO133, Q_HO136, Q_HO139, fun h0_ => absurd ((hoff 19 (by kernel_rfl)).symm.trans h0_) (by decide), fun h0_ => absurd ((hoff 20 (by kernel_rfl)).symm.trans h0_) (by decide), fun h0_ => absurd ((hoff 21 (by kernel_rfl)).symm.trans h0_) (by decide)⟩))
local macro "lf542_" : tactic => `(tactic| (have e47 : a.tmps[47]? = some (.int .u8 ((wrap64 ((wrap64 ((wrap64 (192 + (wrap64 (16 * a0_0)))) + a0_7)) - 1)) % 256)) := by rw [ha]; exact putSel_on (e := (8, 47, .int .u8 ((wrap64 ((wrap64 ((wrap64 (192 + (wrap64 (16 * a0_0)))) + a0_7)) - 1)) % 256))) 6 rfl rfl (hon 8 (by kernel_rfl)) rfl))
local macro "lf543_" : tactic => `(tactic| (refine Kd.R_lit_step (Kd.int .u8) _ 5 ?hg (N := 48) ?hd (xs := ([(wrap64 ((wrap64 ((wrap64 (192 + (wrap64 (16 * a0_0)))) + a0_7)) - 1)) % 256] : List Int)) (inner := [.int .u8 ((wrap64 ((wrap64 ((wrap64 (192 + (wrap64 (16 * a0_0)))) + a0_7)) - 1)) % 256)]) (ok := fun _ => True) (okp := fun _ => True) ?hr ?hp (fun _ hk => hk) trivial (Below.refl _ _) (Nat.le_refl _) (by simp) ?_; (case hd => rfl); (case hg => rfl); (case hr => first | (go_simp; done) | (go_simp; rfl)); (case hp => exact (Reps.one (show Kd.M (Kd.int .u8) _ _ _ ((wrap64 ((wrap64 ((wrap64 (192 + (wrap64 (16 * a0_0)))) + a0_7)) - 1)) % 256) [.int .u8 ((wrap64 ((wrap64 ((wrap64 (192 + (wrap64 (16 * a0_0)))) + a0_7)) - 1)) % 256)] from rfl) (Reps.none _ _)))))
local macro "lf544_" : tactic => `(tactic| (refine hK.out _ _ ⟨v129, v132, v135, v138, v141, v144, m21_, (by rw [ha.out]; exact putSel_upk 7 hb_ rfl rfl rfl), (pf53_), (by qk_; exact BK114.out), (by qb1_ GE114), fun _ _ => (by qR_; exact Kd.R_mono HO130.out (fun _ hk => (pf56_))), z_HO133, z_HO136, z_HO139, fun h0_ => absurd ((hoff 19 (by kernel_rfl)).symm.trans h0_) (by decide), fun h0_ => absurd ((hoff 20 (by kernel_rfl)).symm.trans h0_) (by decide), fun h0_ => absurd ((hoff 21 (by kernel_rfl)).symm.trans h0_) (by decide)⟩))
local macro "lf545_" : tactic => `(tactic| (refine hK.out _ _ ⟨v129, v132, v135, v138, v141, v144, m21_, (by rw [ha.out]; exact putSel_upk 8 hb_ rfl rfl rfl), Q_HO_115002, Q_BK114, Q_HB, Q_HO130, fun h0_ _ => absurd ((hoff 12 (by kernel_rfl)).symm.trans h0_) (by decide), fun h0_ _ => absurd ((hoff 15 (by kernel_rfl)).symm.trans h0_) (by decide), fun h0_ _ => absurd ((hoff 18 (by kernel_rfl)).symm.trans h0_) (by decide), fun h0_ => absurd ((hoff 19 (by kernel_rfl)).symm.trans h0_) (by decide), fun h0_ => absurd ((hoff 20 (by kernel_rfl)).symm.trans h0_) (by decide), fun h0_ => absurd ((hoff 21 (by kernel_rfl)).symm.trans h0_) (by decide)⟩))
local macro "lf546_" : tactic => `(tactic| (have e50 : a.tmps[50]? = some (.int .i64 a0_1) := by rw [ha]; exact putSel_on (e := (11, 50, .int .i64 a0_1)) 8 rfl rfl (hon 11 (by kernel_rfl)) rfl))
local macro "lf547_" : tactic => `(tactic| (refine goes_ Tryd.func21 (by kernel_rfl) rfl #[.int .i64 a0_1, .int .i64 4] (by rfl) rfl rfl (by first | (simp only [List.map_toArray, List.map_cons, List.map_nil, Act.eval, Array.getD_eq_getD_getElem?, Option.getD_some, e50]; done) | (simp only [List.map_toArray, List.map_cons, List.map_nil, Act.eval, Array.getD_eq_getD_getElem?, Option.getD_some, e50]; rfl)) ?_))
local macro "lf548_" : tactic => `(tactic| (refine hK.out _ _ ⟨v129, v132, v135, v138, v141, v144, m21_, (by rw [ha.out]; exact putSel_upk 9 hb_ rfl rfl rfl), (pf53_), (by qk_; exact BK114.out), (by qb1_ GE114), z_HO130, fun _ _ => (by qR_; exact Kd.R_mono HO133.out (fun _ hk => (pf56_))), fun h0_ _ => absurd ((hoff 15 (by kernel_rfl)).symm.trans h0_) (by decide), fun h0_ _ => absurd ((hoff 18 (by kernel_rfl)).symm.trans h0_) (by decide), fun h0_ => absurd ((hoff 19 (by kernel_rfl)).symm.trans h0_) (by decide), fun h0_ => absurd ((hoff 20 (by kernel_rfl)).symm.trans h0_) (by decide), fun h0_ => absurd ((hoff 21 (by kernel_rfl)).symm.trans h0_) (by decide)⟩))
local macro "lf549_" : tactic => `(tactic| (refine hK.out _ _ ⟨v129, v132, v135, v138, v141, v144, m21_, (by rw [ha.out]; exact putSel_upk 10 hb_ rfl rfl rfl), Q_HO_115002, Q_BK114, Q_HB, Q_HO130, Q_HO133, fun h0_ _ => absurd ((hoff 15 (by kernel_rfl)).symm.trans h0_) (by decide), fun h0_ _ => absurd ((hoff 18 (by kernel_rfl)).symm.trans h0_) (by decide), fun h0_ => absurd ((hoff 19 (by kernel_rfl)).symm.trans h0_) (by decide), fun h0_ => absurd ((hoff 20 (by kernel_rfl)).symm.trans h0_) (by decide), fun h0_ => absurd ((hoff 21 (by kernel_rfl)).symm.trans h0_) (by decide)⟩))
local macro "lf550_" : tactic => `(tactic| (have e53 : a.tmps[53]? = some (.slice A0_2 l0_2.length c0_2) := by rw [ha]; exact putSel_on (e := (14, 53, .slice A0_2 l0_2.length c0_2)) 10 rfl rfl (hon 14 (by kernel_rfl)) rfl))
local macro "lf551_" : tactic => `(tactic| (have HO133 := Aside0.mk (Q_HO133 (hon 12 (by kernel_rfl)) (hoff 19 (by kernel_rfl)))))
local macro "lf552_" : tactic => `(tactic| (refine goes_ Tryd.func22 (by kernel_rfl) rfl #[.slice A0_2 l0_2.length c0_2] (by rfl) rfl rfl (by first | (simp only [List.map_toArray, List.map_cons, List.map_nil, Act.eval, Array.getD_eq_getD_getElem?, Option.getD_some, e53]; done) | (simp only [List.map_toArray, List.map_cons, List.map_nil, Act.eval, Array.getD_eq_getD_getElem?, Option.getD_some, e53]; rfl)) ?_))
local macro "lf553_" : tactic => `(tactic| ((case side1 => repeat (first | exact (Kd.V_reads' HO_115002.out).2.2 | (with_reducible refine Kd.C_alloc ?_ _) | (with_reducible refine Kd.C_drewN ?_ _) | (with_reducible refine Kd.C_drew ?_)))))
local macro "lf554_" : tactic => `(tactic| (have n1_ := Aside0.mk (Kd.R_elder' (by qR_; exact HO133.out) (Kd.R_base ho0) hb)))
local macro "lf555_" : tactic => `(tactic| (have n2_ := Aside0.mk (Kd.R_lower (Kd.R_new' (Kd.R_newM (M := fun k_ => (w.heap.size ≤ k_)) ho0 (below_size (by qb1_ GE114)) (fun k_ h_ => h_)) (Kd.R_lt (by qR_; exact HO133.out))) (below_size (by qb1_ GE114)))))
local macro "lf556_" : tactic => `(tactic| (refine hK.out _ _ ⟨v129, v132, v135, v138, v141, v144, m21_, (by rw [ha.out]; exact putSel_upk 11 hb_ rfl rfl rfl), (pf55_), (by qk_; exact BK114.out), (by qb1_ GE114), z_HO130, fun _ _ => (by qR_; first | exact HO133.out | exact Kd.R_mono HO133.out (fun _ hk => by first | exact hk.1 | grind)), fun _ _ => (by qR_; exact Kd.R_mono HO136.out (fun _ hk => (by first | exact ⟨hk.1.1, hk.2⟩ | exact hk | grind))), fun h0_ _ => absurd ((hoff 18 (by kernel_rfl)).symm.trans h0_) (by decide), fun h0_ => absurd ((hoff 19 (by kernel_rfl)).symm.trans h0_) (by decide), fun h0_ => absurd ((hoff 20 (by kernel_rfl)).symm.trans h0_) (by decide), fun h0_ => absurd ((hoff 21 (by kernel_rfl)).symm.trans h0_) (by decide)⟩))
local macro "lf557_" : tactic => `(tactic| (refine hK.out _ _ ⟨v129, v132, v135, v138, v141, v144, m21_, (by rw [ha.out]; exact putSel_upk 12 hb_ rfl rfl rfl), Q_HO_115002, Q_BK114, Q_HB, Q_HO130, Q_HO133, Q_HO136, fun h0_ _ => absurd ((hoff 18 (by kernel_rfl)).symm.trans h0_) (by decide), fun h0_ => absurd ((hoff 19 (by kernel_rfl)).symm.trans h0_) (by decide), fun h0_ => absurd ((hoff 20 (by kernel_rfl)).symm.trans h0_) (by decide), fun h0_ => absurd ((hoff 21 (by kernel_rfl)).symm.trans h0_) (by decide)⟩))
local macro "lf558_" : tactic => `(tactic| (have e56 : a.tmps[56]? = some (.slice A0_3 l0_3.length c0_3) := by rw [ha]; exact putSel_on (e := (17, 56, .slice A0_3 l0_3.length c0_3)) 12 rfl rfl (hon 17 (by kernel_rfl)) rfl))
local macro "lf559_" : tactic => `(tactic| (refine goes_ Tryd.func22 (by kernel_rfl) rfl #[.slice A0_3 l0_3.length c0_3] (by rfl) rfl rfl (by first | (simp only [List.map_toArray, List.map_cons, List.map_nil, Act.eval, Array.getD_eq_getD_getElem?, Option.getD_some, e56]; done) | (simp only [List.map_toArray, List.map_cons, List.map_nil, Act.eval, Array.getD_eq_getD_getElem?, Option.getD_some, e56]; rfl)) ?_))
local macro "lf560_" : tactic => `(tactic| ((case side1 => repeat (first | exact (Kd.C_below HR0_3.out HB.out) | exact HR0_3.out | (with_reducible refine Kd.C_alloc ?_ _) | (with_reducible refine Kd.C_drewN ?_ _) | (with_reducible refine Kd.C_drew ?_)))))
local macro "lf561_" : tactic => `(tactic| (have n3_ := Aside0.mk (Kd.R_lower (Kd.R_new' (Kd.R_new' (Kd.R_newM (M := fun k_ => (w.heap.size ≤ k_)) ho0 (below_size (by qb1_ GE114)) (fun k_ h_ => h_)) (Kd.R_lt (by qR_; exact HO133.out))) (Kd.R_lt (by qR_; exact HO136.out))) (below_size (by qb1_ GE114)))))
local macro "lf562_" : tactic => `(tactic| (have n4_ := Aside0.mk (blk_below (g := gb114) (o := (of50_)) (by qk_; exact BK114.out) hb)))
local macro "lf563_" : tactic => `(tactic| (refine hK.out _ _ ⟨v129, v132, v135, v138, v141, v144, m21_, (by rw [ha.out]; exact putSel_upk 13 hb_ rfl rfl rfl), (by qV_; exact Kd.V_mono HO_115002.out (fun _ hk => (by first | exact ⟨hk.1.1, ⟨hk.1.2.1, ⟨hk.1.2.2.1, ⟨hk.2, hk.1.2.2.2⟩⟩⟩⟩ | exact hk | grind))), (by qk_; exact BK114.out), (by qb1_ GE114), z_HO130, fun _ _ => (by qR_; exact Kd.R_mono HO133.out (fun _ hk => (pf59_))), fun _ _ => (by qR_; exact Kd.R_mono HO136.out (fun _ hk => (pf59_))), fun _ _ => (by qR_; exact Kd.R_mono HO139.out (fun _ hk => (by first | exact ⟨hk.1.1.1, ⟨hk.1.2, hk.2⟩⟩ | exact hk | grind))), fun h0_ => absurd ((hoff 19 (by kernel_rfl)).symm.trans h0_) (by decide), fun h0_ => absurd ((hoff 20 (by kernel_rfl)).symm.trans h0_) (by decide), fun h0_ => absurd ((hoff 21 (by kernel_rfl)).symm.trans h0_) (by decide)⟩))
local macro "lf564_" : tactic => `(tactic| (have HO142 := Aside0.mk (Q_HO142 (hon 19 (by kernel_rfl)))))
local macro "lf565_" : tactic => `(tactic| ((case side1 => repeat (first | exact (Kd.N_reads' HO142.out).2.2 | (with_reducible refine Kd.C_alloc ?_ _) | (with_reducible refine Kd.C_drewN ?_ _) | (with_reducible refine Kd.C_drew ?_)))))
local macro "lf566_" : tactic => `(tactic| (have n1_ := Aside0.mk (Kd.N_elder' (by qN_; exact HO142.out) (Kd.R_base ho0) hb)))
local macro "lf567_" : tactic => `(tactic| (refine hK.out _ _ ⟨v129, v132, v135, v138, v141, v144, (v144), (by rw [ha.out]; exact putSel_upk 16 hb_ rfl rfl rfl), Q_HO_115002, Q_BK114, Q_HB, fun _ h1_ => absurd ((hon 19 (by kernel_rfl)).symm.trans h1_) (by decide), fun _ h1_ => absurd ((hon 19 (by kernel_rfl)).symm.trans h1_) (by decide), fun _ h1_ => absurd ((hon 19 (by kernel_rfl)).symm.trans h1_) (by decide), fun _ h1_ => absurd ((hon 19 (by kernel_rfl)).symm.trans h1_) (by decide), Q_HO142, Q_HO145, fun _ => rfl⟩))
local macro "lf568_" : tactic => `(tactic| (simp only [putSel, hb1_, hb2_, hb3_, hb5_, hb6_, hb7_, hb8_, hb9_, hb11_, hb12_, hb14_, hb15_, hb17_, hb18_, hb19_, hb20_, hb21_, if_true, Act.put, List.setIfInBounds_toArray, List.set_cons_zero, List.set_cons_succ]))
local macro "lf569_" : tactic => `(tactic| (refine start_ (n := 13) (S := fun w' => w'.cell? ⟨gb114, 0, none⟩ = some (.int .i64 a0_0) ∧ w'.cell? ⟨gb114, 1, none⟩ = some (.int .i64 a0_1) ∧ w'.cell? ⟨gb114, 2, none⟩ = some (.slice A0_2 l0_2.length c0_2) ∧ w'.cell? ⟨gb114, 3, none⟩ = some (.slice A0_3 l0_3.length c0_3) ∧ w'.cell? ⟨gb114, 4, none⟩ = some (.slice A0_4 l0_4.length c0_4) ∧ w'.cell? ⟨gb114, 5, none⟩ = some (.int .i64 a0_5) ∧ w'.cell? ⟨gb114, 6, none⟩ = some (.int .i64 a0_6) ∧ w'.cell? ⟨gb114, 7, none⟩ = some (.int .i64 a0_7)) (ds := []) #[false, false, false, false, false, false, false, false, false, false, false, false, false] (by kernel_rfl) rfl rfl ⟨(blk_cell BK114.out 0).trans rfl, (blk_cell BK114.out 1).trans rfl, (blk_cell BK114.out 2).trans rfl, (blk_cell BK114.out 3).trans rfl, (blk_cell BK114.out 4).trans rfl, (blk_cell BK114.out 5).trans rfl, (blk_cell BK114.out 6).trans rfl, (blk_cell BK114.out 7).trans rfl⟩ (fun hHeld => ?_); refine with_tabW header_Write.tab8 header_Write.bits8 (fun HT_ HW_ => ?_)))
local macro "lf570_" : tactic => `(tactic| (refine pure_ (i := 0) (N := some 67) (v := ?_) (a' := ?_) #[true, false, false, false, false, false, false, false, false, false, false, false, false] rfl rfl (any_of HT_.out (by kernel_rfl)) (fun _ _ _ h => h) (Or.inl ⟨by rfl, ?_⟩) ?_ ?_))
local macro "lf571_" : tactic => `(tactic| (refine pure_ (i := 1) (N := some 68) (v := ?_) (a' := ?_) #[true, true, false, false, false, false, false, false, false, false, false, false, false] rfl rfl (any_of HT_.out (by kernel_rfl)) (fun _ _ _ h => h) (Or.inl ⟨by rfl, ?_⟩) ?_ ?_))
local macro "lf572_" : tactic => `(tactic| (refine pure_ (i := 3) (N := some 70) (v := ?_) (a' := ?_) #[true, true, false, true, false, false, false, false, false, false, false, false, false] rfl rfl (any_of HT_.out (by kernel_rfl)) (fun _ _ _ h => h) (Or.inl ⟨by rfl, ?_⟩) ?_ ?_))
local macro "lf573_" : tactic => `(tactic| (refine pure_ (i := 6) (N := some 73) (v := ?_) (a' := ?_) #[true, true, false, true, false, false, true, false, false, false, false, false, false] rfl rfl (any_of HT_.out (by kernel_rfl)) (fun _ _ _ h => h) (Or.inl ⟨by rfl, ?_⟩) ?_ ?_))
local macro "lf574_" : tactic => `(tactic| (refine pure_ (i := 8) (N := some 75) (v := ?_) (a' := ?_) #[true, true, false, true, false, false, true, false, true, false, false, false, false] rfl rfl (any_of HT_.out (by kernel_rfl)) (fun _ _ _ h => h) (Or.inl ⟨by rfl, ?_⟩) ?_ ?_))
local macro "lf575_" : tactic => `(tactic| (refine take_ (i := 2) (N := some 69) (v := ?_) (a' := ?_) #[true, true, true, true, false, false, true, false, true, false, false, false, false] rfl rfl (take_ofW HT_.out HW_.out (by kernel_rfl)) (fun _ _ _ h => h) (Or.inl ⟨by rfl, ?_⟩) hHeld ?_ ?_))
local macro "lf576_" : tactic => `(tactic| (rintro w' ⟨s0, s1, s2, s3, s4, s5, s6, s7⟩))
local macro "lf577_" : tactic => `(tactic| (refine pure_ (i := 4) (N := some 71) (v := ?_) (a' := ?_) #[true, true, true, true, true, false, true, false, true, false, false, false, false] rfl rfl (any_of HT_.out (by kernel_rfl)) (fun _ _ _ h => h) (Or.inl ⟨by rfl, ?_⟩) ?_ ?_))
local macro "lf578_" : tactic => `(tactic| (refine take_ (i := 7) (N := some 74) (v := ?_) (a' := ?_) #[true, true, true, true, true, false, true, true, true, false, false, false, false] rfl rfl (take_ofW HT_.out HW_.out (by kernel_rfl)) (fun _ _ _ h => h) (Or.inl ⟨by rfl, ?_⟩) hHeld ?_ ?_))
local macro "lf579_" : tactic => `(tactic| (refine take_ (i := 9) (N := some 76) (v := ?_) (a' := ?_) #[true, true, true, true, true, false, true, true, true, true, false, false, false] rfl rfl (take_ofW HT_.out HW_.out (by kernel_rfl)) (fun _ _ _ h => h) (Or.inl ⟨by rfl, ?_⟩) hHeld ?_ ?_))
local macro "lf580_" : tactic => `(tactic| (refine one_ (i := 5) (N := some 72) #[true, true, true, true, true, true, true, true, true, true, false, false, false] rfl rfl (one_of HT_.out (by kernel_rfl)) (by decide) (fun K hK => ?_)))
local macro "lf581_" : tactic => `(tactic| ((case sideT => repeat (first | exact HT.out | exact TB.below HT.out HB.out | (with_reducible refine TB.alloc ?_ _) | (with_reducible refine TB.drewN ?_ _) | (with_reducible refine TB.drew ?_)))))
local macro "lf582_" : tactic => `(tactic| (have n2_ := Aside0.mk (Kd.R_elder' (by qR_; exact HO145.out) (Kd.R_base ho0) hb)))
local macro "lf583_" : tactic => `(tactic| (refine hK.out _ _ ⟨(blk_cell BK114.out 0).trans rfl, (blk_cell BK114.out 1).trans rfl, (blk_cell BK114.out 2).trans rfl, (blk_cell BK114.out 3).trans rfl, (blk_cell BK114.out 4).trans rfl, (blk_cell BK114.out 5).trans rfl, (blk_cell BK114.out 6).trans rfl, (blk_cell BK114.out 7).trans rfl⟩ (fun hHeld => ?_)))
local macro "lf584_" : tactic => `(tactic| (refine one_ (i := 10) (N := some 77) #[true, true, true, true, true, true, true, true, true, true, true, false, false] rfl rfl (one_of HT_.out (by kernel_rfl)) (by decide) (fun K hK => ?_)))
local macro "lf585_" : tactic => `(tactic| (refine one_ (i := 11) (N := some 78) #[true, true, true, true, true, true, true, true, true, true, true, true, false] rfl rfl (one_of HT_.out (by kernel_rfl)) (by decide) (fun K hK => ?_)))
local macro "lf586_" : tactic => `(tactic| (refine pure_ (i := 12) (N := some 4) (v := ?_) (a' := ?_) #[true, true, true, true, true, true, true, true, true, true, true, true, true] rfl rfl (any_of HT_.out (by kernel_rfl)) (fun _ _ _ h => h) (Or.inl ⟨by rfl, ?_⟩) ?_ ?_))
set_option hygiene true
def header_Write.j0 : Nat → Int → Bool → Int → Int → List Int → List Int → List Int → Int → Int → Int → Option (List Int)
 | 0, _, _, _, _, _, _, _, _, _, _ => none
 | k + 1, x1, x16, x115000, x115001, x115002, x115003, x115004, x115005, x115006, x115007 => if x16 = true then (some ([] : List Int)) else (if x115000 = 3 then ((header_big.f k x115006 x115007).bind fun t119 => ((slices_Concat_byte_byte.f (([(([(wrap64 ((wrap64 ((wrap64 (64 + (wrap64 (4 * x115005)))) + x115007)) - 1)) % 256] : List Int)), x115002, t119] : List (List Int)))).bind fun t125 => (some t125))) else ((header_big.f k x115001 4).bind fun t131 => ((header_named.f x115002).bind fun t134 => ((header_named.f x115003).bind fun t137 => ((slices_Concat_byte_byte.f (([(([(wrap64 ((wrap64 ((wrap64 (192 + (wrap64 (16 * x115000)))) + x115007)) - 1)) % 256] : List Int)), t131, t134, t137] : List (List Int)))).bind fun t143 => (if x115000 = 0 then ((varint_Give.f k t143 x115004).bind fun t146 => ((varint_Append.f k t146 (wrap64 (x115007 + x1))).bind fun t149 => ((header_big.f k x115006 x115007).bind fun t152 => (pf57_)))) else ((varint_Append.f k t143 (wrap64 (x115007 + x1))).bind fun t158 => ((header_big.f k x115006 x115007).bind fun t161 => (pf58_)))))))))
def header_Write.f (k : Nat) (a0_0 : Int) (a0_1 : Int) (l0_2 : List Int) (l0_3 : List Int) (l0_4 : List Int) (a0_5 : Int) (a0_6 : Int) (a0_7 : Int) (a1 : Int) : Option (List Int) := (header_Right.f k a0_0 a0_1 l0_2 l0_3 l0_4 a0_5 a0_6 a0_7).bind fun t115 => (pf54_)
theorem header_Write.mono_l : ∀ k, (∀ y0 y1 y2 y3 y4 y5 y6 y7 y8 y9, LeO (header_Write.j0 k y0 y1 y2 y3 y4 y5 y6 y7 y8 y9) (header_Write.j0 (k + 1) y0 y1 y2 y3 y4 y5 y6 y7 y8 y9))
 | 0 => fun _ _ _ _ _ _ _ _ _ _ r h => by simp [header_Write.j0] at h
 | k + 1 => by
  have ih0 := header_Write.mono_l k
  ·intro y0 y1 y2 y3 y4 y5 y6 y7 y8 y9
   unfold header_Write.j0
   repeat' first
   | (with_reducible exact ih0 _ _ _ _ _ _ _ _ _ _)
   | (with_reducible exact header_Right.mono _ _ _ _ _ _ _ _ _)
   | (with_reducible exact header_big.mono _ _ _)
   | (with_reducible exact varint_Append.mono _ _ _)
   | (with_reducible exact varint_Give.mono _ _ _)
   | (with_reducible exact LeO.refl _)
   | (with_reducible exact LeO.none _)
   | (with_reducible refine LeO.ite ?_ ?_)
   | (with_reducible refine LeO.bind ?_ (fun _ => ?_))
   | exact ih0 _ _ _ _ _ _ _ _ _ _
   | exact header_Right.mono _ _ _ _ _ _ _ _ _
   | exact header_big.mono _ _ _
   | exact varint_Append.mono _ _ _
   | exact varint_Give.mono _ _ _
   | exact LeO.none _
   | refine LeO.ite ?_ ?_
   | refine LeO.bind ?_ (fun _ => ?_)
theorem header_Write.mono : ∀ a0 a1 a2 a3 a4 a5 a6 a7 a8 k, LeO (header_Write.f k a0 a1 a2 a3 a4 a5 a6 a7 a8) (header_Write.f (k + 1) a0 a1 a2 a3 a4 a5 a6 a7 a8) := by
 intro a0 a1 a2 a3 a4 a5 a6 a7 a8 k
 have ih0 := header_Write.mono_l k
 unfold header_Write.f
 repeat' first
   | (with_reducible exact ih0 _ _ _ _ _ _ _ _ _ _)
   | (with_reducible exact header_Right.mono _ _ _ _ _ _ _ _ _)
   | (with_reducible exact header_big.mono _ _ _)
   | (with_reducible exact varint_Append.mono _ _ _)
   | (with_reducible exact varint_Give.mono _ _ _)
   | (with_reducible exact LeO.refl _)
   | (with_reducible exact LeO.none _)
   | (with_reducible refine LeO.ite ?_ ?_)
   | (with_reducible refine LeO.bind ?_ (fun _ => ?_))
   | exact ih0 _ _ _ _ _ _ _ _ _ _
   | exact header_Right.mono _ _ _ _ _ _ _ _ _
   | exact header_big.mono _ _ _
   | exact varint_Append.mono _ _ _
   | exact varint_Give.mono _ _ _
   | exact LeO.none _
   | refine LeO.ite ?_ ?_
   | refine LeO.bind ?_ (fun _ => ?_)
def header_Write.T4 : Bool × List (List Nat × List Nat) := (true, [([], []), ([0], [0]), ([1], [1]), ([2], [2]), ([], []), ([4], [4]), ([3, 5], [3, 5]), ([6], [6]), ([7], [7]), ([8], [8]), ([], []), ([10], [10]), ([], []), ([12], [12]), ([], []), ([14], [14]), ([13, 15], [13, 15]), ([9, 11, 16], [9, 11, 16]), ([17, 16], [17]), ([18, 18, 0, 1, 2, 3, 4, 5, 6, 7, 8, 9, 10, 11, 12, 13, 14, 15, 16, 17, 18], [18])])
def header_Write.B4 : List Nat := [0, 1, 3, 7, 0, 16, 63, 127, 255, 511, 0, 1024, 0, 4096, 0, 16384, 61440, 131071, 262143, 524287]
theorem header_Write.tab4 : rtab .any (opsOf Tryd.f11 4) = header_Write.T4 := by kernel_rfl
theorem header_Write.bits4 : waitsOk header_Write.T4.2 header_Write.B4 = true := by kernel_rfl
def header_Write.T5 : Bool × List (List Nat × List Nat) := (true, [([], []), ([0], [0]), ([1], [1]), ([2], [2]), ([], []), ([4], [4]), ([3, 5], [3, 5]), ([6], [6]), ([7], [7]), ([8], [8]), ([], []), ([10], [10]), ([11], [11]), ([], []), ([13], [13]), ([14, 12], [14]), ([], []), ([16], [16]), ([17, 15], [17]), ([9, 12, 15, 18], [9, 12, 15, 18]), ([19, 18], [19]), ([20, 20, 0, 1, 2, 3, 4, 5, 6, 7, 8, 9, 10, 11, 12, 13, 14, 15, 16, 17, 18, 19, 20], [20])])
def header_Write.B5 : List Nat := [0, 1, 3, 7, 0, 16, 63, 127, 255, 511, 0, 1024, 3072, 0, 8192, 31744, 0, 65536, 261120, 524287, 1048575, 2097151]
theorem header_Write.tab5 : rtab .any (opsOf Tryd.f11 5) = header_Write.T5 := by kernel_rfl
theorem header_Write.bits5 : waitsOk header_Write.T5.2 header_Write.B5 = true := by kernel_rfl
def header_Write.T8 : Bool × List (List Nat × List Nat) := (true, [([], []), ([], []), ([1], [1]), ([], []), ([2, 3], [2, 3]), ([0, 4], [0, 4]), ([], []), ([6], [6]), ([], []), ([8], [8]), ([7, 9, 5], [7, 9]), ([5, 10, 10], [5, 10]), ([11, 11, 0, 1, 2, 3, 4, 5, 6, 7, 8, 9, 10, 11], [11])])
def header_Write.B8 : List Nat := [0, 0, 2, 0, 14, 31, 0, 64, 0, 256, 1023, 2047, 4095]
theorem header_Write.tab8 : rtab .any (opsOf Tryd.f11 8) = header_Write.T8 := by kernel_rfl
theorem header_Write.bits8 : waitsOk header_Write.T8.2 header_Write.B8 = true := by kernel_rfl
set_option maxHeartbeats 8000000 in
set_option maxRecDepth 100000 in
theorem header_Write.calls (k : Nat) (a0_0 : Int) (a0_1 : Int) (P0_2_ : Nat → Prop) (A0_2 : Option Addr) (c0_2 : Nat) (l0_2 : List Int) (A0_3 : Option Addr) (c0_3 : Nat) (l0_3 : List Int) (A0_4 : Option Addr) (c0_4 : Nat) (l0_4 : List Int) (a0_5 : Int) (a0_6 : Int) (a0_7 : Int) (a1 : Int) (r : List Int) (w : World) (hs0_2 : Kd.V (Kd.int .u8) 5 w w.heap.size (fun k_ => P0_2_ k_) (.slice A0_2 l0_2.length c0_2) l0_2) (hr0_3 : Kd.C (Kd.int .u8) w A0_3 l0_3.length l0_3) (hc0_3 : l0_3.length ≤ c0_3) (hr0_4 : Kd.C (Kd.int .u8) w A0_4 l0_4.length l0_4) (hc0_4 : l0_4.length ≤ c0_4) (ht : TB w) (h : header_Write.f k a0_0 a0_1 l0_2 l0_3 l0_4 a0_5 a0_6 a0_7 a1 = some r) :
  Calls Tryd.prog 11 #[.agg #[.int .i64 a0_0, .int .i64 a0_1, .slice A0_2 l0_2.length c0_2, .slice A0_3 l0_3.length c0_3, .slice A0_4 l0_4.length c0_4, .int .i64 a0_5, .int .i64 a0_6, .int .i64 a0_7], .int .i64 a1] w fun e w' => ∃ v0_ : Value, e = .returned (v0_) ∧ Kd.R (Kd.int .u8) 5 w' w.heap.size (fun k_ => (w.heap.size ≤ k_)) v0_ r ∧ Below w.heap.size w w' := by
 have HT := Aside0.mk ht
 clear ht
 have hu33 := Tryd.underlying33
 have HO0_2 := Aside0.mk (show Kd.V (Kd.int .u8) 5 w w.heap.size (fun k_ => (P0_2_ k_ ∨ w.heap.size ≤ k_)) (.slice A0_2 l0_2.length c0_2) l0_2 from Kd.V_mono hs0_2 (fun k_ hk => .inl hk))
 have HR0_3 := Aside0.mk hr0_3
 have HC0_3 := Aside0.mk hc0_3
 clear hr0_3 hc0_3
 have HR0_4 := Aside0.mk hr0_4
 have HC0_4 := Aside0.mk hc0_4
 clear hr0_4 hc0_4
 have HB := Aside0.mk (Below.refl w.heap.size w)
 have H : ((header_Right.f k a0_0 a0_1 l0_2 l0_3 l0_4 a0_5 a0_6 a0_7).bind fun t115 => (pf54_)) = some r := h
 clear h
 have HC3 := Aside0.mk H
 clear H
 go_enter Tryd.func11, Tryd.ntmps11
 go_upto_region 1 with (first | ((with_reducible refine gate_dst (N := 2) rfl ?_); refine box_event ?hg (N := 2) ?hd (cs := #[.int .i64 a0_0, .int .i64 a0_1, .slice A0_2 l0_2.length c0_2, .slice A0_3 l0_3.length c0_3, .slice A0_4 l0_4.length c0_4, .int .i64 a0_5, .int .i64 a0_6, .int .i64 a0_7]) (t := 33) ?hr ?_; (case hd => rfl); (case hg => rfl); (case hr => first | (go_simp; done) | (go_simp; rfl)); intro gb114 hg w4 hbox hb; have n0_ := Aside0.mk (Kd.V_below (Kd.V_elderB (by qV_; exact HO0_2.out) gb114 (Nat.le_of_eq hg.symm)) hb); have n1_ := Aside0.mk (below_step (by qc0_) hb); have n2_ := Aside0.mk (hbox); have n3_ := Aside0.mk ((by rw [hg]; exact (below_size (by qc0_)) : w.heap.size ≤ gb114)); have n4_ := Aside0.mk ((by rw [hg]; exact (below_size (by qc0_)) : w.heap.size ≤ gb114)); clear HO0_2; clear HB; have HO0_2 := n0_; have HB := n1_; have BK114 := n2_; have GW114 := n3_; have GE114 := n4_; clear n0_ n1_ n2_ n3_ n4_; clear hb hbox hg))
 (try simp only [Act.put, List.setIfInBounds_toArray, List.set_cons_zero, List.set_cons_succ])
 go_cut [16] (fun v16 wc => ∃ (kq : Nat) (x16_2 : Bool), v16 = .bool x16_2 ∧ Aside0 (header_Write.j0 kq a1 x16_2 a0_0 a0_1 l0_2 l0_3 l0_4 a0_5 a0_6 a0_7 = some r) ∧ Aside0 (kq ≤ k) ∧ Aside0 (Kd.V (Kd.int .u8) 5 wc w.heap.size (fun k_ => (P0_2_ k_ ∨ w.heap.size ≤ k_) ∧ k_ ≠ gb114) (.slice A0_2 l0_2.length c0_2) l0_2) ∧ Aside0 (wc.heap[gb114]? = some (.cells #[.int .i64 a0_0, .int .i64 a0_1, (.slice A0_2 l0_2.length c0_2), (.slice A0_3 l0_3.length c0_3), (.slice A0_4 l0_4.length c0_4), .int .i64 a0_5, .int .i64 a0_6, .int .i64 a0_7] 33 (0, 0))) ∧ Aside0 (Below w.heap.size w wc))
 case first =>
  have H := HC3.out
  clear HC3
  lf50_
  obtain ⟨t115, A50, H⟩ := H
  replace H : (pf54_) = some r := H
  have A5 := Aside0.mk A50
  clear A50
  by_cases c6 : t115 = true
  ·subst c6
   have H1 : (if a1 < 0 then (header_Write.j0 k a1 true a0_0 a0_1 l0_2 l0_3 l0_4 a0_5 a0_6 a0_7) else (header_Write.j0 k a1 (decide (a1 > 16384)) a0_0 a0_1 l0_2 l0_3 l0_4 a0_5 a0_6 a0_7)) = some r := by rw [if_pos rfl] at H; exact H
   clear H
   have H := H1
   clear H1
   by_cases c7 : a1 < 0
   ·rw [if_pos c7] at H
    have c7b0 : decide (a1 < 0) = true := decide_eq_true c7
    clear c7
    (first | rw [c7b0] | (simp only [i64_w, i32_w]; rw [c7b0]) | skip)
    have H' := Aside0.mk H
    clear H
    have hcz8_0 : w4.cell? ⟨gb114, 0, none⟩ = some (.int .i64 a0_0) := (blk_cell BK114.out 0).trans rfl
    have hcz8_1 : w4.cell? ⟨gb114, 1, none⟩ = some (.int .i64 a0_1) := (blk_cell BK114.out 1).trans rfl
    have hcz8_2 : w4.cell? ⟨gb114, 2, none⟩ = some (.slice A0_2 l0_2.length c0_2) := (blk_cell BK114.out 2).trans rfl
    have hcz8_3 : w4.cell? ⟨gb114, 3, none⟩ = some (.slice A0_3 l0_3.length c0_3) := (blk_cell BK114.out 3).trans rfl
    have hcz8_4 : w4.cell? ⟨gb114, 4, none⟩ = some (.slice A0_4 l0_4.length c0_4) := (blk_cell BK114.out 4).trans rfl
    have hcz8_5 : w4.cell? ⟨gb114, 5, none⟩ = some (.int .i64 a0_5) := (blk_cell BK114.out 5).trans rfl
    have hcz8_6 : w4.cell? ⟨gb114, 6, none⟩ = some (.int .i64 a0_6) := (blk_cell BK114.out 6).trans rfl
    have hcz8_7 : w4.cell? ⟨gb114, 7, none⟩ = some (.int .i64 a0_7) := (blk_cell BK114.out 7).trans rfl
    have hfz8_0 := blk_frozen BK114.out 0
    have hfz8_1 := blk_frozen BK114.out 1
    have hfz8_2 := blk_frozen BK114.out 2
    have hfz8_3 := blk_frozen BK114.out 3
    have hfz8_4 := blk_frozen BK114.out 4
    have hfz8_5 := blk_frozen BK114.out 5
    have hfz8_6 := blk_frozen BK114.out 6
    have hfz8_7 := blk_frozen BK114.out 7
    go_wp2_with (first | ((with_reducible refine gate_callee (f := 19) rfl ?_); refine goesL_ (some 7) rfl rfl Tryd.func19 (by kernel_rfl) rfl #[.agg #[.int .i64 a0_0, .int .i64 a0_1, .slice A0_2 l0_2.length c0_2, .slice A0_3 l0_3.length c0_3, .slice A0_4 l0_4.length c0_4, .int .i64 a0_5, .int .i64 a0_6, .int .i64 a0_7]] rfl (pf52_) ?_; (with_reducible refine (header_Right.calls k a0_0 a0_1 _ _ l0_2 _ _ l0_3 _ _ l0_4 a0_5 a0_6 a0_7 true _ ?side1 ?side2 ?side3 ?side4 ?side5 ?side6 A5.out).mono ?_); (case side1 => repeat (first | exact (Kd.V_reads' HO0_2.out).2.2 | (with_reducible refine Kd.C_alloc ?_ _) | (with_reducible refine Kd.C_drewN ?_ _) | (with_reducible refine Kd.C_drew ?_))); (case side2 => exact (Kd.V_reads' HO0_2.out).2.1); (case side3 => repeat (first | exact (Kd.C_below HR0_3.out HB.out) | exact HR0_3.out | (with_reducible refine Kd.C_alloc ?_ _) | (with_reducible refine Kd.C_drewN ?_ _) | (with_reducible refine Kd.C_drew ?_))); (case side4 => exact HC0_3.out); (case side5 => repeat (first | exact (Kd.C_below HR0_4.out HB.out) | exact HR0_4.out | (with_reducible refine Kd.C_alloc ?_ _) | (with_reducible refine Kd.C_drewN ?_ _) | (with_reducible refine Kd.C_drew ?_))); (case side6 => exact HC0_4.out); rintro e w9 ⟨rfl, hb⟩; refine ⟨_, rfl, ?_⟩; have n0_ := Aside0.mk (Kd.V_below (by qV_; exact HO0_2.out) hb); have n1_ := Aside0.mk (blk_below (g := gb114) (o := (of50_)) (by qk_; exact BK114.out) hb); have n2_ := Aside0.mk (below_step (by qb1_ GE114) hb); clear HO0_2; clear BK114; clear HB; have HO0_2 := n0_; have BK114 := n1_; have HB := n2_; clear n0_ n1_ n2_; (try clear hb); (try clear hb2); (try clear hk); (try clear hi)))
    go_meet
    case rel => exact ⟨_, (true), (by first | rfl | (simp; done) | (simp [*]; done)), H', ⟨by first | omega | exact Nat.le_refl _⟩, ⟨by qV_; exact HO0_2.out⟩, ⟨by qk_; exact BK114.out⟩, ⟨by qb1_ GE114⟩⟩
   ·rw [if_neg c7] at H
    have c7b0 : decide (a1 < 0) = false := decide_eq_false c7
    clear c7
    (first | rw [c7b0] | (simp only [i64_w, i32_w]; rw [c7b0]) | skip)
    have H' := Aside0.mk H
    clear H
    have hcz10_0 : w4.cell? ⟨gb114, 0, none⟩ = some (.int .i64 a0_0) := (blk_cell BK114.out 0).trans rfl
    have hcz10_1 : w4.cell? ⟨gb114, 1, none⟩ = some (.int .i64 a0_1) := (blk_cell BK114.out 1).trans rfl
    have hcz10_2 : w4.cell? ⟨gb114, 2, none⟩ = some (.slice A0_2 l0_2.length c0_2) := (blk_cell BK114.out 2).trans rfl
    have hcz10_3 : w4.cell? ⟨gb114, 3, none⟩ = some (.slice A0_3 l0_3.length c0_3) := (blk_cell BK114.out 3).trans rfl
    have hcz10_4 : w4.cell? ⟨gb114, 4, none⟩ = some (.slice A0_4 l0_4.length c0_4) := (blk_cell BK114.out 4).trans rfl
    have hcz10_5 : w4.cell? ⟨gb114, 5, none⟩ = some (.int .i64 a0_5) := (blk_cell BK114.out 5).trans rfl
    have hcz10_6 : w4.cell? ⟨gb114, 6, none⟩ = some (.int .i64 a0_6) := (blk_cell BK114.out 6).trans rfl
    have hcz10_7 : w4.cell? ⟨gb114, 7, none⟩ = some (.int .i64 a0_7) := (blk_cell BK114.out 7).trans rfl
    have hfz10_0 := blk_frozen BK114.out 0
    have hfz10_1 := blk_frozen BK114.out 1
    have hfz10_2 := blk_frozen BK114.out 2
    have hfz10_3 := blk_frozen BK114.out 3
    have hfz10_4 := blk_frozen BK114.out 4
    have hfz10_5 := blk_frozen BK114.out 5
    have hfz10_6 := blk_frozen BK114.out 6
    have hfz10_7 := blk_frozen BK114.out 7
    go_wp2_with (first | ((with_reducible refine gate_callee (f := 19) rfl ?_); refine goesL_ (some 7) rfl rfl Tryd.func19 (by kernel_rfl) rfl #[.agg #[.int .i64 a0_0, .int .i64 a0_1, .slice A0_2 l0_2.length c0_2, .slice A0_3 l0_3.length c0_3, .slice A0_4 l0_4.length c0_4, .int .i64 a0_5, .int .i64 a0_6, .int .i64 a0_7]] rfl (pf52_) ?_; (with_reducible refine (header_Right.calls k a0_0 a0_1 _ _ l0_2 _ _ l0_3 _ _ l0_4 a0_5 a0_6 a0_7 true _ ?side1 ?side2 ?side3 ?side4 ?side5 ?side6 A5.out).mono ?_); (case side1 => repeat (first | exact (Kd.V_reads' HO0_2.out).2.2 | (with_reducible refine Kd.C_alloc ?_ _) | (with_reducible refine Kd.C_drewN ?_ _) | (with_reducible refine Kd.C_drew ?_))); (case side2 => exact (Kd.V_reads' HO0_2.out).2.1); (case side3 => repeat (first | exact (Kd.C_below HR0_3.out HB.out) | exact HR0_3.out | (with_reducible refine Kd.C_alloc ?_ _) | (with_reducible refine Kd.C_drewN ?_ _) | (with_reducible refine Kd.C_drew ?_))); (case side4 => exact HC0_3.out); (case side5 => repeat (first | exact (Kd.C_below HR0_4.out HB.out) | exact HR0_4.out | (with_reducible refine Kd.C_alloc ?_ _) | (with_reducible refine Kd.C_drewN ?_ _) | (with_reducible refine Kd.C_drew ?_))); (case side6 => exact HC0_4.out); rintro e w11 ⟨rfl, hb⟩; refine ⟨_, rfl, ?_⟩; have n0_ := Aside0.mk (Kd.V_below (by qV_; exact HO0_2.out) hb); have n1_ := Aside0.mk (blk_below (g := gb114) (o := (of50_)) (by qk_; exact BK114.out) hb); have n2_ := Aside0.mk (below_step (by qb1_ GE114) hb); clear HO0_2; clear BK114; clear HB; have HO0_2 := n0_; have BK114 := n1_; have HB := n2_; clear n0_ n1_ n2_; (try clear hb); (try clear hb2); (try clear hk); (try clear hi)))
    go_meet
    case rel => exact ⟨_, (decide (a1 > 16384)), (by first | rfl | (simp; done) | (simp [*]; done)), H', ⟨by first | omega | exact Nat.le_refl _⟩, ⟨by qV_; exact HO0_2.out⟩, ⟨by qk_; exact BK114.out⟩, ⟨by qb1_ GE114⟩⟩
  ·replace c6 := Bool.eq_false_iff.mpr c6
   subst c6
   have H1 : (header_Write.j0 k a1 true a0_0 a0_1 l0_2 l0_3 l0_4 a0_5 a0_6 a0_7) = some r := by rw [if_neg (show ¬ (false = true) by decide)] at H; exact H
   clear H
   have H := H1
   clear H1
   have H' := Aside0.mk H
   clear H
   have hcz12_0 : w4.cell? ⟨gb114, 0, none⟩ = some (.int .i64 a0_0) := (blk_cell BK114.out 0).trans rfl
   have hcz12_1 : w4.cell? ⟨gb114, 1, none⟩ = some (.int .i64 a0_1) := (blk_cell BK114.out 1).trans rfl
   have hcz12_2 : w4.cell? ⟨gb114, 2, none⟩ = some (.slice A0_2 l0_2.length c0_2) := (blk_cell BK114.out 2).trans rfl
   have hcz12_3 : w4.cell? ⟨gb114, 3, none⟩ = some (.slice A0_3 l0_3.length c0_3) := (blk_cell BK114.out 3).trans rfl
   have hcz12_4 : w4.cell? ⟨gb114, 4, none⟩ = some (.slice A0_4 l0_4.length c0_4) := (blk_cell BK114.out 4).trans rfl
   have hcz12_5 : w4.cell? ⟨gb114, 5, none⟩ = some (.int .i64 a0_5) := (blk_cell BK114.out 5).trans rfl
   have hcz12_6 : w4.cell? ⟨gb114, 6, none⟩ = some (.int .i64 a0_6) := (blk_cell BK114.out 6).trans rfl
   have hcz12_7 : w4.cell? ⟨gb114, 7, none⟩ = some (.int .i64 a0_7) := (blk_cell BK114.out 7).trans rfl
   have hfz12_0 := blk_frozen BK114.out 0
   have hfz12_1 := blk_frozen BK114.out 1
   have hfz12_2 := blk_frozen BK114.out 2
   have hfz12_3 := blk_frozen BK114.out 3
   have hfz12_4 := blk_frozen BK114.out 4
   have hfz12_5 := blk_frozen BK114.out 5
   have hfz12_6 := blk_frozen BK114.out 6
   have hfz12_7 := blk_frozen BK114.out 7
   go_wp2_with (first | ((with_reducible refine gate_callee (f := 19) rfl ?_); refine goesL_ (some 7) rfl rfl Tryd.func19 (by kernel_rfl) rfl #[.agg #[.int .i64 a0_0, .int .i64 a0_1, .slice A0_2 l0_2.length c0_2, .slice A0_3 l0_3.length c0_3, .slice A0_4 l0_4.length c0_4, .int .i64 a0_5, .int .i64 a0_6, .int .i64 a0_7]] rfl (pf52_) ?_; (with_reducible refine (header_Right.calls k a0_0 a0_1 _ _ l0_2 _ _ l0_3 _ _ l0_4 a0_5 a0_6 a0_7 false _ ?side1 ?side2 ?side3 ?side4 ?side5 ?side6 A5.out).mono ?_); (case side1 => repeat (first | exact (Kd.V_reads' HO0_2.out).2.2 | (with_reducible refine Kd.C_alloc ?_ _) | (with_reducible refine Kd.C_drewN ?_ _) | (with_reducible refine Kd.C_drew ?_))); (case side2 => exact (Kd.V_reads' HO0_2.out).2.1); (case side3 => repeat (first | exact (Kd.C_below HR0_3.out HB.out) | exact HR0_3.out | (with_reducible refine Kd.C_alloc ?_ _) | (with_reducible refine Kd.C_drewN ?_ _) | (with_reducible refine Kd.C_drew ?_))); (case side4 => exact HC0_3.out); (case side5 => repeat (first | exact (Kd.C_below HR0_4.out HB.out) | exact HR0_4.out | (with_reducible refine Kd.C_alloc ?_ _) | (with_reducible refine Kd.C_drewN ?_ _) | (with_reducible refine Kd.C_drew ?_))); (case side6 => exact HC0_4.out); rintro e w13 ⟨rfl, hb⟩; refine ⟨_, rfl, ?_⟩; have n0_ := Aside0.mk (Kd.V_below (by qV_; exact HO0_2.out) hb); have n1_ := Aside0.mk (blk_below (g := gb114) (o := (of50_)) (by qk_; exact BK114.out) hb); have n2_ := Aside0.mk (below_step (by qb1_ GE114) hb); clear HO0_2; clear BK114; clear HB; have HO0_2 := n0_; have BK114 := n1_; have HB := n2_; clear n0_ n1_ n2_; (try clear hb); (try clear hb2); (try clear hk); (try clear hi)))
   go_meet
   case rel => exact ⟨_, (true), (by first | rfl | (simp; done) | (simp [*]; done)), H', ⟨by first | omega | exact Nat.le_refl _⟩, ⟨by qV_; exact HO0_2.out⟩, ⟨by qk_; exact BK114.out⟩, ⟨by qb1_ GE114⟩⟩
 case rest =>
  clear HC3
  try clear c1
  try clear p2
  try clear c6
  try clear c7
  try clear c7b0
  try clear c11
  try clear hcz10_0
  try clear hcz10_1
  try clear hcz10_2
  try clear hcz10_3
  try clear hcz10_4
  try clear hcz10_5
  try clear hcz10_6
  try clear hcz10_7
  try clear hcz12_0
  try clear hcz12_1
  try clear hcz12_2
  try clear hcz12_3
  try clear hcz12_4
  try clear hcz12_5
  try clear hcz12_6
  try clear hcz12_7
  try clear hcz8_0
  try clear hcz8_1
  try clear hcz8_2
  try clear hcz8_3
  try clear hcz8_4
  try clear hcz8_5
  try clear hcz8_6
  try clear hcz8_7
  try clear hfz10_0
  try clear hfz10_1
  try clear hfz10_2
  try clear hfz10_3
  try clear hfz10_4
  try clear hfz10_5
  try clear hfz10_6
  try clear hfz10_7
  try clear hfz12_0
  try clear hfz12_1
  try clear hfz12_2
  try clear hfz12_3
  try clear hfz12_4
  try clear hfz12_5
  try clear hfz12_6
  try clear hfz12_7
  try clear hfz8_0
  try clear hfz8_1
  try clear hfz8_2
  try clear hfz8_3
  try clear hfz8_4
  try clear hfz8_5
  try clear hfz8_6
  try clear hfz8_7
  obtain ⟨kq, x16_2, rfl, HA, HJ2, HO_115002, BK114, HB⟩ := hcut
  cases kq with
  | zero => exact absurd HA.out (by simp [header_Write.j0])
  | succ kj2 =>
   have H := HA.out
   clear HA
   simp only [header_Write.j0] at H
   by_cases c14 : x16_2 = true
   ·subst c14
    have H1 : (some ([] : List Int)) = some r := by rw [if_pos rfl] at H; exact H
    clear H
    have H := H1
    clear H1
    obtain rfl := Option.some.inj H
    go_wp2
    go_ret
    exact ⟨_, by first | rfl | (simp [errW_none, errW_some] <;> rfl) | (simp [*, errW_none, errW_some] <;> rfl), by first | exact Kd.R_nil _ _ _ _ _ | exact Kd.N_nil _ _ _ _ _ | exact Kd.V_nil _ _ _ _ _ | exact Kd.Q_nil _ _ _ _ _ | exact Kd.S_nil _ _ _ _ _, by qb1_ GE114⟩
   ·replace c14 := Bool.eq_false_iff.mpr c14
    subst c14
    have H1 : (if a0_0 = 3 then ((header_big.f kj2 a0_6 a0_7).bind fun t119 => ((slices_Concat_byte_byte.f (([(([(wrap64 ((wrap64 ((wrap64 (64 + (wrap64 (4 * a0_5)))) + a0_7)) - 1)) % 256] : List Int)), l0_2, t119] : List (List Int)))).bind fun t125 => (some t125))) else ((header_big.f kj2 a0_1 4).bind fun t131 => ((header_named.f l0_2).bind fun t134 => ((header_named.f l0_3).bind fun t137 => ((slices_Concat_byte_byte.f (([(([(wrap64 ((wrap64 ((wrap64 (192 + (wrap64 (16 * a0_0)))) + a0_7)) - 1)) % 256] : List Int)), t131, t134, t137] : List (List Int)))).bind fun t143 => (pf50_)))))) = some r := by rw [if_neg (show ¬ (false = true) by decide)] at H; exact H
    clear H
    have H := H1
    clear H1
    by_cases c15 : a0_0 = 3
    ·rw [if_pos c15] at H
     have c15b0 : (a0_0 == 3) = true := beq_iff_eq.mpr c15
     have c15b1 : (a0_0 != 3) = false := bne_eq_false_iff_eq.mpr c15
     clear c15
     obtain ⟨y116, hy116⟩ : ∃ y_ : List Int, y_ = (([(wrap64 ((wrap64 ((wrap64 (64 + (wrap64 (4 * a0_5)))) + a0_7)) - 1)) % 256] : List Int)) := ⟨_, rfl⟩
     replace H : ((header_big.f kj2 a0_6 a0_7).bind fun t119 => ((slices_Concat_byte_byte.f (([y116, l0_2, t119] : List (List Int)))).bind fun t125 => (some t125))) = some r := by first | (rw [hy116]; with_reducible exact H) | (have H2_ := (Option.bind_some _ _).symm.trans H; rw [hy116]; with_reducible exact H2_) | (have H2_ := (Option.bind_some _ _).symm.trans H; with_reducible exact H2_) | with_reducible exact H | (rw [hy116]; exact H) | exact H
     have Ny116 := Aside0.mk hy116
     clear hy116
     lf50_
     obtain ⟨t119, A160, H⟩ := H
     replace H : ((slices_Concat_byte_byte.f (([y116, l0_2, t119] : List (List Int)))).bind fun t125 => (some t125)) = some r := H
     have A16 := Aside0.mk A160
     clear A160
     obtain ⟨y122, hy122⟩ : ∃ y_ : List (List Int), y_ = (([y116, l0_2, t119] : List (List Int))) := ⟨_, rfl⟩
     replace H : ((slices_Concat_byte_byte.f y122).bind fun t125 => (some t125)) = some r := by first | (rw [hy122]; with_reducible exact H) | (have H2_ := (Option.bind_some _ _).symm.trans H; rw [hy122]; with_reducible exact H2_) | (have H2_ := (Option.bind_some _ _).symm.trans H; with_reducible exact H2_) | with_reducible exact H | (rw [hy122]; exact H) | exact H
     have Ny122 := Aside0.mk hy122
     clear hy122
     lf50_
     obtain ⟨t125, A170, H⟩ := H
     replace H : (some t125) = some r := H
     have A17 := Aside0.mk A170
     clear A170
     obtain rfl := Option.some.inj H
     have hcz18_0 : wc.cell? ⟨gb114, 0, none⟩ = some (.int .i64 a0_0) := (blk_cell BK114.out 0).trans rfl
     have hcz18_1 : wc.cell? ⟨gb114, 1, none⟩ = some (.int .i64 a0_1) := (blk_cell BK114.out 1).trans rfl
     have hcz18_2 : wc.cell? ⟨gb114, 2, none⟩ = some (.slice A0_2 l0_2.length c0_2) := (blk_cell BK114.out 2).trans rfl
     have hcz18_3 : wc.cell? ⟨gb114, 3, none⟩ = some (.slice A0_3 l0_3.length c0_3) := (blk_cell BK114.out 3).trans rfl
     have hcz18_4 : wc.cell? ⟨gb114, 4, none⟩ = some (.slice A0_4 l0_4.length c0_4) := (blk_cell BK114.out 4).trans rfl
     have hcz18_5 : wc.cell? ⟨gb114, 5, none⟩ = some (.int .i64 a0_5) := (blk_cell BK114.out 5).trans rfl
     have hcz18_6 : wc.cell? ⟨gb114, 6, none⟩ = some (.int .i64 a0_6) := (blk_cell BK114.out 6).trans rfl
     have hcz18_7 : wc.cell? ⟨gb114, 7, none⟩ = some (.int .i64 a0_7) := (blk_cell BK114.out 7).trans rfl
     have hfz18_0 := blk_frozen BK114.out 0
     have hfz18_1 := blk_frozen BK114.out 1
     have hfz18_2 := blk_frozen BK114.out 2
     have hfz18_3 := blk_frozen BK114.out 3
     have hfz18_4 := blk_frozen BK114.out 4
     have hfz18_5 := blk_frozen BK114.out 5
     have hfz18_6 := blk_frozen BK114.out 6
     have hfz18_7 := blk_frozen BK114.out 7
     try go_wp2
     lf51_
     have n1_ := Aside0.mk (blk_drew BK114.out)
     have n2_ := Aside0.mk (below_drew1 HB.out)
     clear HO_115002
     clear BK114
     clear HB
     have HO_115002 := n0_
     have BK114 := n1_
     have HB := n2_
     clear n0_ n1_ n2_
     refine start_ (n := 20) (S := fun w' => True) (ds := []) #[false, false, false, false, false, false, false, false, false, false, false, false, false, false, false, false, false, false, false, false] (by kernel_rfl) rfl rfl trivial (fun hHeld => ?_); refine with_tabW header_Write.tab4 header_Write.bits4 (fun HT_ HW_ => ?_)
     generalize wc.drew = w19 at HO_115002 BK114 HB hHeld ⊢
     refine pure_ (i := 0) (N := some 20) (v := ?_) (a' := ?_) #[true, false, false, false, false, false, false, false, false, false, false, false, false, false, false, false, false, false, false, false] rfl rfl (any_of HT_.out (by kernel_rfl)) (fun _ _ _ h => h) (Or.inl ⟨by rfl, ?_⟩) ?_ ?_
     rotate_left
     ·intro w'
      go_simp
      with_reducible rfl
     rotate_left
     ·qp_
      rfl
     refine pure_ (i := 4) (N := some 24) (v := ?_) (a' := ?_) #[true, false, false, false, true, false, false, false, false, false, false, false, false, false, false, false, false, false, false, false] rfl rfl (any_of HT_.out (by kernel_rfl)) (fun _ _ _ h => h) (Or.inl ⟨by rfl, ?_⟩) ?_ ?_
     rotate_left
     ·intro w'
      go_simp
      with_reducible rfl
     rotate_left
     ·qp_
      rfl
     refine pure_ (i := 10) (N := some 30) (v := ?_) (a' := ?_) #[true, false, false, false, true, false, false, false, false, false, true, false, false, false, false, false, false, false, false, false] rfl rfl (any_of HT_.out (by kernel_rfl)) (fun _ _ _ h => h) (Or.inl ⟨by rfl, ?_⟩) ?_ ?_
     rotate_left
     ·intro w'
      go_simp
      with_reducible rfl
     rotate_left
     ·qp_
      rfl
     refine pure_ (i := 12) (N := some 32) (v := ?_) (a' := ?_) #[true, false, false, false, true, false, false, false, false, false, true, false, true, false, false, false, false, false, false, false] rfl rfl (any_of HT_.out (by kernel_rfl)) (fun _ _ _ h => h) (Or.inl ⟨by rfl, ?_⟩) ?_ ?_
     rotate_left
     ·intro w'
      go_simp
      with_reducible rfl
     rotate_left
     ·qp_
      rfl
     refine pure_ (i := 14) (N := some 34) (v := ?_) (a' := ?_) #[true, false, false, false, true, false, false, false, false, false, true, false, true, false, true, false, false, false, false, false] rfl rfl (any_of HT_.out (by kernel_rfl)) (fun _ _ _ h => h) (Or.inl ⟨by rfl, ?_⟩) ?_ ?_
     rotate_left
     ·intro w'
      go_simp
      with_reducible rfl
     rotate_left
     ·qp_
      rfl
     refine inv_at [1, 2, 3, 5, 6, 7, 8, 9, 11, 13, 15, 16, 17, 18, 19] (fun a0_ b a w' => ∃ (v117 : Value) (v120 : Value) (v123 : Value) (v126 : Value) (m19_ : Value), a = putSel a0_ b [(1, 21, .int .i64 a0_5), (2, 22, .int .i64 (wrap64 (4 * a0_5))), (3, 23, .int .i64 (wrap64 (64 + (wrap64 (4 * a0_5))))), (5, 25, .int .i64 a0_7), (6, 26, .int .i64 (wrap64 ((wrap64 (64 + (wrap64 (4 * a0_5)))) + a0_7))), (7, 27, .int .i64 (wrap64 ((wrap64 ((wrap64 (64 + (wrap64 (4 * a0_5)))) + a0_7)) - 1))), (8, 28, .int .u8 ((wrap64 ((wrap64 ((wrap64 (64 + (wrap64 (4 * a0_5)))) + a0_7)) - 1)) % 256)), (9, 29, v117), (11, 31, .slice A0_2 l0_2.length c0_2), (13, 33, .int .i64 a0_6), (15, 35, .int .i64 a0_7), (16, 36, v120), (17, 37, v123), (18, 38, v126), (19, 4, m19_)] ∧ (Kd.V (Kd.int .u8) 5 w' w.heap.size (fun k_ => (P0_2_ k_ ∨ w.heap.size ≤ k_) ∧ k_ ≠ gb114) (.slice A0_2 l0_2.length c0_2) l0_2) ∧ (w'.heap[gb114]? = some ((of50_))) ∧ (Below w.heap.size w w') ∧ (b 9 = true → b 17 = false → Kd.R (Kd.int .u8) 5 w' w.heap.size (fun k_ => (w.heap.size ≤ k_)) v117 y116) ∧ (b 16 = true → b 17 = false → Kd.R (Kd.int .u8) 5 w' w.heap.size (fun k_ => (w.heap.size ≤ k_)) v120 t119) ∧ (b 17 = true → Kd.N (Kd.slice 5 (Kd.int .u8)) 22 w' w.heap.size (fun k_ => (P0_2_ k_ ∨ w.heap.size ≤ k_) ∧ k_ ≠ gb114) v123 y122) ∧ (b 18 = true → Kd.R (Kd.int .u8) 5 w' w.heap.size (fun k_ => (w.heap.size ≤ k_)) v126 t125) ∧ (b 19 = true → (m19_ : Value) = v126)) HT_.out HW_.out (by kernel_rfl) (by kernel_rfl) ?_ ?_ ?_
     ·exact ⟨.bool false, .bool false, .bool false, .bool false, .bool false, by simp only [putSel, Bool.false_eq_true, if_false], HO_115002.out, BK114.out, HB.out, fun h_ => absurd h_ (by decide), fun h_ => absurd h_ (by decide), fun h_ => absurd h_ (by decide), fun h_ => absurd h_ (by decide), fun h_ => absurd h_ (by decide)⟩
     ·skip
      clear BK114 HB HO_115002
      refine steps_cons ?_ ?_
      ·lf52_
       refine ⟨_, rfl, fun K hK => ?_⟩
       have e20 : a.tmps[20]? = some (.pointer (some ⟨gb114, 5, none⟩)) := by rw [ha]; exact (putSel_off rfl).trans rfl
       replace ha := Aside0.mk ha
       have HO_115002 := Aside0.mk Q_HO_115002
       have BK114 := Aside0.mk Q_BK114
       have HB := Aside0.mk Q_HB
       lf53_
       lf54_
       lf55_
       lf56_
       lf57_
       lf58_
       lf59_
       lf510_
       refine value_ (w1 := w') (v := .int .i64 a0_5) (by rfl) rfl ?_ ?_
       ·go_simp
        (try simp only [i64_w])
        try rfl
       refine hK.out _ _ ⟨v117, v120, v123, v126, m19_, (by rw [ha.out]; exact putSel_upk 0 hb_ rfl rfl rfl), Q_HO_115002, Q_BK114, Q_HB, fun h0_ _ => absurd ((hoff 9 (by kernel_rfl)).symm.trans h0_) (by decide), Q_HO121, fun h0_ => absurd ((hoff 17 (by kernel_rfl)).symm.trans h0_) (by decide), fun h0_ => absurd ((hoff 18 (by kernel_rfl)).symm.trans h0_) (by decide), fun h0_ => absurd ((hoff 19 (by kernel_rfl)).symm.trans h0_) (by decide)⟩
      refine steps_cons ?_ ?_
      ·lf52_
       refine ⟨_, rfl, fun K hK => ?_⟩
       have e21 : a.tmps[21]? = some (.int .i64 a0_5) := by rw [ha]; exact putSel_on (e := (1, 21, .int .i64 a0_5)) 0 rfl rfl (hon 1 (by kernel_rfl)) rfl
       replace ha := Aside0.mk ha
       have HO_115002 := Aside0.mk Q_HO_115002
       have BK114 := Aside0.mk Q_BK114
       have HB := Aside0.mk Q_HB
       refine value_ (w1 := w') (v := .int .i64 (wrap64 (4 * a0_5))) (by rfl) rfl ?_ ?_
       ·go_simp
        (try simp only [i64_w])
        try rfl
       refine hK.out _ _ ⟨v117, v120, v123, v126, m19_, (by rw [ha.out]; exact putSel_upk 1 hb_ rfl rfl rfl), Q_HO_115002, Q_BK114, Q_HB, fun h0_ _ => absurd ((hoff 9 (by kernel_rfl)).symm.trans h0_) (by decide), Q_HO121, fun h0_ => absurd ((hoff 17 (by kernel_rfl)).symm.trans h0_) (by decide), fun h0_ => absurd ((hoff 18 (by kernel_rfl)).symm.trans h0_) (by decide), fun h0_ => absurd ((hoff 19 (by kernel_rfl)).symm.trans h0_) (by decide)⟩
      refine steps_cons ?_ ?_
      ·lf52_
       refine ⟨_, rfl, fun K hK => ?_⟩
       have e22 : a.tmps[22]? = some (.int .i64 (wrap64 (4 * a0_5))) := by rw [ha]; exact putSel_on (e := (2, 22, .int .i64 (wrap64 (4 * a0_5)))) 1 rfl rfl (hon 2 (by kernel_rfl)) rfl
       replace ha := Aside0.mk ha
       have HO_115002 := Aside0.mk Q_HO_115002
       have BK114 := Aside0.mk Q_BK114
       have HB := Aside0.mk Q_HB
       refine value_ (w1 := w') (v := .int .i64 (wrap64 (64 + (wrap64 (4 * a0_5))))) (by rfl) rfl ?_ ?_
       ·go_simp
        (try simp only [i64_w])
        try rfl
       refine hK.out _ _ ⟨v117, v120, v123, v126, m19_, (by rw [ha.out]; exact putSel_upk 2 hb_ rfl rfl rfl), Q_HO_115002, Q_BK114, Q_HB, fun h0_ _ => absurd ((hoff 9 (by kernel_rfl)).symm.trans h0_) (by decide), Q_HO121, fun h0_ => absurd ((hoff 17 (by kernel_rfl)).symm.trans h0_) (by decide), fun h0_ => absurd ((hoff 18 (by kernel_rfl)).symm.trans h0_) (by decide), fun h0_ => absurd ((hoff 19 (by kernel_rfl)).symm.trans h0_) (by decide)⟩
      refine steps_cons ?_ ?_
      ·lf52_
       refine ⟨_, rfl, fun K hK => ?_⟩
       have e24 : a.tmps[24]? = some (.pointer (some ⟨gb114, 7, none⟩)) := by rw [ha]; exact (putSel_off rfl).trans rfl
       replace ha := Aside0.mk ha
       have HO_115002 := Aside0.mk Q_HO_115002
       have BK114 := Aside0.mk Q_BK114
       have HB := Aside0.mk Q_HB
       lf53_
       lf54_
       lf55_
       lf56_
       lf57_
       lf58_
       lf59_
       lf510_
       lf511_
       ·go_simp
        (try simp only [i64_w])
        try rfl
       refine hK.out _ _ ⟨v117, v120, v123, v126, m19_, (by rw [ha.out]; exact putSel_upk 3 hb_ rfl rfl rfl), Q_HO_115002, Q_BK114, Q_HB, fun h0_ _ => absurd ((hoff 9 (by kernel_rfl)).symm.trans h0_) (by decide), Q_HO121, fun h0_ => absurd ((hoff 17 (by kernel_rfl)).symm.trans h0_) (by decide), fun h0_ => absurd ((hoff 18 (by kernel_rfl)).symm.trans h0_) (by decide), fun h0_ => absurd ((hoff 19 (by kernel_rfl)).symm.trans h0_) (by decide)⟩
      refine steps_cons ?_ ?_
      ·lf52_
       refine ⟨_, rfl, fun K hK => ?_⟩
       have e23 : a.tmps[23]? = some (.int .i64 (wrap64 (64 + (wrap64 (4 * a0_5))))) := by rw [ha]; exact putSel_on (e := (3, 23, .int .i64 (wrap64 (64 + (wrap64 (4 * a0_5)))))) 2 rfl rfl (hon 3 (by kernel_rfl)) rfl
       have e25 : a.tmps[25]? = some (.int .i64 a0_7) := by rw [ha]; exact putSel_on (e := (5, 25, .int .i64 a0_7)) 3 rfl rfl (hon 5 (by kernel_rfl)) rfl
       replace ha := Aside0.mk ha
       have HO_115002 := Aside0.mk Q_HO_115002
       have BK114 := Aside0.mk Q_BK114
       have HB := Aside0.mk Q_HB
       refine value_ (w1 := w') (v := .int .i64 (wrap64 ((wrap64 (64 + (wrap64 (4 * a0_5)))) + a0_7))) (by rfl) rfl ?_ ?_
       ·go_simp
        (try simp only [i64_w])
        try rfl
       refine hK.out _ _ ⟨v117, v120, v123, v126, m19_, (by rw [ha.out]; exact putSel_upk 4 hb_ rfl rfl rfl), Q_HO_115002, Q_BK114, Q_HB, fun h0_ _ => absurd ((hoff 9 (by kernel_rfl)).symm.trans h0_) (by decide), Q_HO121, fun h0_ => absurd ((hoff 17 (by kernel_rfl)).symm.trans h0_) (by decide), fun h0_ => absurd ((hoff 18 (by kernel_rfl)).symm.trans h0_) (by decide), fun h0_ => absurd ((hoff 19 (by kernel_rfl)).symm.trans h0_) (by decide)⟩
      refine steps_cons ?_ ?_
      ·lf52_
       refine ⟨_, rfl, fun K hK => ?_⟩
       have e26 : a.tmps[26]? = some (.int .i64 (wrap64 ((wrap64 (64 + (wrap64 (4 * a0_5)))) + a0_7))) := by rw [ha]; exact putSel_on (e := (6, 26, .int .i64 (wrap64 ((wrap64 (64 + (wrap64 (4 * a0_5)))) + a0_7)))) 4 rfl rfl (hon 6 (by kernel_rfl)) rfl
       replace ha := Aside0.mk ha
       have HO_115002 := Aside0.mk Q_HO_115002
       have BK114 := Aside0.mk Q_BK114
       have HB := Aside0.mk Q_HB
       refine value_ (w1 := w') (v := .int .i64 (wrap64 ((wrap64 ((wrap64 (64 + (wrap64 (4 * a0_5)))) + a0_7)) - 1))) (by rfl) rfl ?_ ?_
       ·go_simp
        (try simp only [i64_w])
        try rfl
       refine hK.out _ _ ⟨v117, v120, v123, v126, m19_, (by rw [ha.out]; exact putSel_upk 5 hb_ rfl rfl rfl), Q_HO_115002, Q_BK114, Q_HB, fun h0_ _ => absurd ((hoff 9 (by kernel_rfl)).symm.trans h0_) (by decide), Q_HO121, fun h0_ => absurd ((hoff 17 (by kernel_rfl)).symm.trans h0_) (by decide), fun h0_ => absurd ((hoff 18 (by kernel_rfl)).symm.trans h0_) (by decide), fun h0_ => absurd ((hoff 19 (by kernel_rfl)).symm.trans h0_) (by decide)⟩
      refine steps_cons ?_ ?_
      ·lf52_
       refine ⟨_, rfl, fun K hK => ?_⟩
       have e27 : a.tmps[27]? = some (.int .i64 (wrap64 ((wrap64 ((wrap64 (64 + (wrap64 (4 * a0_5)))) + a0_7)) - 1))) := by rw [ha]; exact putSel_on (e := (7, 27, .int .i64 (wrap64 ((wrap64 ((wrap64 (64 + (wrap64 (4 * a0_5)))) + a0_7)) - 1)))) 5 rfl rfl (hon 7 (by kernel_rfl)) rfl
       replace ha := Aside0.mk ha
       have HO_115002 := Aside0.mk Q_HO_115002
       have BK114 := Aside0.mk Q_BK114
       have HB := Aside0.mk Q_HB
       refine value_ (w1 := w') (v := .int .u8 ((wrap64 ((wrap64 ((wrap64 (64 + (wrap64 (4 * a0_5)))) + a0_7)) - 1)) % 256)) (by rfl) rfl ?_ ?_
       ·go_simp
        (try simp only [i64_w])
        try rfl
       refine hK.out _ _ ⟨v117, v120, v123, v126, m19_, (by rw [ha.out]; exact putSel_upk 6 hb_ rfl rfl rfl), Q_HO_115002, Q_BK114, Q_HB, fun h0_ _ => absurd ((hoff 9 (by kernel_rfl)).symm.trans h0_) (by decide), Q_HO121, fun h0_ => absurd ((hoff 17 (by kernel_rfl)).symm.trans h0_) (by decide), fun h0_ => absurd ((hoff 18 (by kernel_rfl)).symm.trans h0_) (by decide), fun h0_ => absurd ((hoff 19 (by kernel_rfl)).symm.trans h0_) (by decide)⟩
      refine steps_cons ?_ ?_
      ·lf52_
       refine ⟨_, rfl, fun K hK => ?_⟩
       have e28 : a.tmps[28]? = some (.int .u8 ((wrap64 ((wrap64 ((wrap64 (64 + (wrap64 (4 * a0_5)))) + a0_7)) - 1)) % 256)) := by rw [ha]; exact putSel_on (e := (8, 28, .int .u8 ((wrap64 ((wrap64 ((wrap64 (64 + (wrap64 (4 * a0_5)))) + a0_7)) - 1)) % 256))) 6 rfl rfl (hon 8 (by kernel_rfl)) rfl
       replace ha := Aside0.mk ha
       have HO_115002 := Aside0.mk Q_HO_115002
       have BK114 := Aside0.mk Q_BK114
       have HB := Aside0.mk Q_HB
       refine Kd.R_lit_step (Kd.int .u8) _ 5 ?hg (N := 29) ?hd (xs := ([(wrap64 ((wrap64 ((wrap64 (64 + (wrap64 (4 * a0_5)))) + a0_7)) - 1)) % 256] : List Int)) (inner := [.int .u8 ((wrap64 ((wrap64 ((wrap64 (64 + (wrap64 (4 * a0_5)))) + a0_7)) - 1)) % 256)]) (ok := fun _ => True) (okp := fun _ => True) ?hr ?hp (fun _ hk => hk) trivial (Below.refl _ _) (Nat.le_refl _) (by simp) ?_; (case hd => rfl); (case hg => rfl); (case hr => first | (go_simp; done) | (go_simp; rfl)); (case hp => exact (Reps.one (show Kd.M (Kd.int .u8) _ _ _ ((wrap64 ((wrap64 ((wrap64 (64 + (wrap64 (4 * a0_5)))) + a0_7)) - 1)) % 256) [.int .u8 ((wrap64 ((wrap64 ((wrap64 (64 + (wrap64 (4 * a0_5)))) + a0_7)) - 1)) % 256)] from rfl) (Reps.none _ _)))
       intro v117 w20 ho21 hb hg_ hnew_
       clear hg_ hnew_
       (first | rw [← Ny116.out] at ho21 | (simp only [Int.reduceToNat] at ho21; rw [← Ny116.out] at ho21))
       have n0_ := Aside0.mk (Kd.V_elder' (by qV_; exact HO_115002.out) (Kd.R_base ho21) hb)
       have n1_ := Aside0.mk (Kd.R_lower (Kd.R_newM (M := fun k_ => (w.heap.size ≤ k_)) ho21 (below_size (by qb1_ GE114)) (fun k_ h_ => h_)) (below_size (by qb1_ GE114)))
       lf512_
       lf513_
       have z_HO121 := fun (h0_ : b 16 = true) (h1_ : b 17 = false) => (show Kd.R (Kd.int .u8) 5 w20 w.heap.size (fun k_ => (w.heap.size ≤ k_)) v120 t119 from by first | exact (Kd.R_elder' (by qR_; exact (Q_HO121 h0_ h1_)) (Kd.R_base ho21) hb) | exact Kd.R_mono (Kd.R_elder' (by qR_; exact (Q_HO121 h0_ h1_)) (Kd.R_base ho21) hb) (fun _ h_ => by first | trivial | exact h_ | exact h_.1))
       clear HO_115002
       clear BK114
       clear HB
       have HO_115002 := n0_
       have HO118 := n1_
       have BK114 := n2_
       have HB := n3_
       clear n0_ n1_ n2_ n3_
       clear hb ho21
       refine hK.out _ _ ⟨v117, v120, v123, v126, m19_, (by rw [ha.out]; exact putSel_upk 7 hb_ rfl rfl rfl), (pf53_), (by qk_; exact BK114.out), (by qb1_ GE114), fun _ _ => (by qR_; exact Kd.R_mono HO118.out (fun _ hk => (pf56_))), z_HO121, fun h0_ => absurd ((hoff 17 (by kernel_rfl)).symm.trans h0_) (by decide), fun h0_ => absurd ((hoff 18 (by kernel_rfl)).symm.trans h0_) (by decide), fun h0_ => absurd ((hoff 19 (by kernel_rfl)).symm.trans h0_) (by decide)⟩
      refine steps_cons ?_ ?_
      ·lf52_
       refine ⟨_, rfl, fun K hK => ?_⟩
       have e30 : a.tmps[30]? = some (.pointer (some ⟨gb114, 2, none⟩)) := by rw [ha]; exact (putSel_off rfl).trans rfl
       replace ha := Aside0.mk ha
       have HO_115002 := Aside0.mk Q_HO_115002
       have BK114 := Aside0.mk Q_BK114
       have HB := Aside0.mk Q_HB
       lf53_
       lf54_
       lf55_
       lf56_
       lf57_
       lf58_
       lf59_
       lf510_
       lf514_
       ·go_simp
        (try simp only [i64_w])
        try rfl
       refine hK.out _ _ ⟨v117, v120, v123, v126, m19_, (by rw [ha.out]; exact putSel_upk 8 hb_ rfl rfl rfl), Q_HO_115002, Q_BK114, Q_HB, Q_HO118, Q_HO121, fun h0_ => absurd ((hoff 17 (by kernel_rfl)).symm.trans h0_) (by decide), fun h0_ => absurd ((hoff 18 (by kernel_rfl)).symm.trans h0_) (by decide), fun h0_ => absurd ((hoff 19 (by kernel_rfl)).symm.trans h0_) (by decide)⟩
      refine steps_cons ?_ ?_
      ·lf52_
       refine ⟨_, rfl, fun K hK => ?_⟩
       have e32 : a.tmps[32]? = some (.pointer (some ⟨gb114, 6, none⟩)) := by rw [ha]; exact (putSel_off rfl).trans rfl
       replace ha := Aside0.mk ha
       have HO_115002 := Aside0.mk Q_HO_115002
       have BK114 := Aside0.mk Q_BK114
       have HB := Aside0.mk Q_HB
       lf53_
       lf54_
       lf55_
       lf56_
       lf57_
       lf58_
       lf59_
       lf510_
       refine value_ (w1 := w') (v := .int .i64 a0_6) (by rfl) rfl ?_ ?_
       ·go_simp
        (try simp only [i64_w])
        try rfl
       refine hK.out _ _ ⟨v117, v120, v123, v126, m19_, (by rw [ha.out]; exact putSel_upk 9 hb_ rfl rfl rfl), Q_HO_115002, Q_BK114, Q_HB, Q_HO118, fun h0_ _ => absurd ((hoff 16 (by kernel_rfl)).symm.trans h0_) (by decide), fun h0_ => absurd ((hoff 17 (by kernel_rfl)).symm.trans h0_) (by decide), fun h0_ => absurd ((hoff 18 (by kernel_rfl)).symm.trans h0_) (by decide), fun h0_ => absurd ((hoff 19 (by kernel_rfl)).symm.trans h0_) (by decide)⟩
      refine steps_cons ?_ ?_
      ·lf52_
       refine ⟨_, rfl, fun K hK => ?_⟩
       have e34 : a.tmps[34]? = some (.pointer (some ⟨gb114, 7, none⟩)) := by rw [ha]; exact (putSel_off rfl).trans rfl
       replace ha := Aside0.mk ha
       have HO_115002 := Aside0.mk Q_HO_115002
       have BK114 := Aside0.mk Q_BK114
       have HB := Aside0.mk Q_HB
       lf53_
       lf54_
       lf55_
       lf56_
       lf57_
       lf58_
       lf59_
       lf510_
       lf511_
       ·go_simp
        (try simp only [i64_w])
        try rfl
       refine hK.out _ _ ⟨v117, v120, v123, v126, m19_, (by rw [ha.out]; exact putSel_upk 10 hb_ rfl rfl rfl), Q_HO_115002, Q_BK114, Q_HB, Q_HO118, fun h0_ _ => absurd ((hoff 16 (by kernel_rfl)).symm.trans h0_) (by decide), fun h0_ => absurd ((hoff 17 (by kernel_rfl)).symm.trans h0_) (by decide), fun h0_ => absurd ((hoff 18 (by kernel_rfl)).symm.trans h0_) (by decide), fun h0_ => absurd ((hoff 19 (by kernel_rfl)).symm.trans h0_) (by decide)⟩
      refine steps_cons ?_ ?_
      ·lf52_
       refine ⟨_, rfl, fun K hK => ?_⟩
       have e33 : a.tmps[33]? = some (.int .i64 a0_6) := by rw [ha]; exact putSel_on (e := (13, 33, .int .i64 a0_6)) 9 rfl rfl (hon 13 (by kernel_rfl)) rfl
       have e35 : a.tmps[35]? = some (.int .i64 a0_7) := by rw [ha]; exact putSel_on (e := (15, 35, .int .i64 a0_7)) 10 rfl rfl (hon 15 (by kernel_rfl)) rfl
       replace ha := Aside0.mk ha
       have HO_115002 := Aside0.mk Q_HO_115002
       have BK114 := Aside0.mk Q_BK114
       have HB := Aside0.mk Q_HB
       refine goes_ Tryd.func21 (by kernel_rfl) rfl #[.int .i64 a0_6, .int .i64 a0_7] (by rfl) rfl rfl (by first | (simp only [List.map_toArray, List.map_cons, List.map_nil, Act.eval, Array.getD_eq_getD_getElem?, Option.getD_some, e33, e35]; done) | (simp only [List.map_toArray, List.map_cons, List.map_nil, Act.eval, Array.getD_eq_getD_getElem?, Option.getD_some, e33, e35]; rfl)) ?_
       with_reducible refine (header_big.calls kj2 a0_6 a0_7 t119 _ A16.out).mono ?_
       rintro e w20 ⟨v120, rfl, ho0, hb⟩
       refine ⟨_, rfl, ?_⟩
       lf515_
       lf516_
       lf512_
       lf513_
       have z_HO118 := fun (h0_ : b 9 = true) (h1_ : b 17 = false) => (show Kd.R (Kd.int .u8) 5 w20 w.heap.size (fun k_ => (w.heap.size ≤ k_)) v117 y116 from by first | exact (Kd.R_elder' (by qR_; exact (Q_HO118 h0_ h1_)) (Kd.R_base ho0) hb) | exact Kd.R_mono (Kd.R_elder' (by qR_; exact (Q_HO118 h0_ h1_)) (Kd.R_base ho0) hb) (fun _ h_ => by first | trivial | exact h_ | exact h_.1))
       clear HO_115002
       clear BK114
       clear HB
       have HO_115002 := n0_
       have HO121 := n1_
       have BK114 := n2_
       have HB := n3_
       clear n0_ n1_ n2_ n3_
       (try clear hb)
       (try clear hb2)
       (try clear hk)
       (try clear hi)
       (try clear ho0)
       refine hK.out _ _ ⟨v117, v120, v123, v126, m19_, (by rw [ha.out]; exact putSel_upk 11 hb_ rfl rfl rfl), (pf53_), (by qk_; exact BK114.out), (by qb1_ GE114), z_HO118, fun _ _ => (by qR_; exact Kd.R_mono HO121.out (fun _ hk => (pf56_))), fun h0_ => absurd ((hoff 17 (by kernel_rfl)).symm.trans h0_) (by decide), fun h0_ => absurd ((hoff 18 (by kernel_rfl)).symm.trans h0_) (by decide), fun h0_ => absurd ((hoff 19 (by kernel_rfl)).symm.trans h0_) (by decide)⟩
      refine steps_cons ?_ ?_
      ·lf52_
       refine ⟨_, rfl, fun K hK => ?_⟩
       have e29 : a.tmps[29]? = some (v117) := by rw [ha]; exact putSel_on (e := (9, 29, v117)) 7 rfl rfl (hon 9 (by kernel_rfl)) rfl
       have e31 : a.tmps[31]? = some (.slice A0_2 l0_2.length c0_2) := by rw [ha]; exact putSel_on (e := (11, 31, .slice A0_2 l0_2.length c0_2)) 8 rfl rfl (hon 11 (by kernel_rfl)) rfl
       have e36 : a.tmps[36]? = some (v120) := by rw [ha]; exact putSel_on (e := (16, 36, v120)) 11 rfl rfl (hon 16 (by kernel_rfl)) rfl
       replace ha := Aside0.mk ha
       have HO_115002 := Aside0.mk Q_HO_115002
       have BK114 := Aside0.mk Q_BK114
       have HB := Aside0.mk Q_HB
       have HO118 := Aside0.mk (Q_HO118 (hon 9 (by kernel_rfl)) hb_)
       have HO121 := Aside0.mk (Q_HO121 (hon 16 (by kernel_rfl)) hb_)
       obtain ⟨Ao24, co24, eo24⟩ := Kd.R_slice HO118.out
       (first | subst eo24 | (injection eo24 with f1_ f2_ f3_; have f4_ := f1_.symm; have f5_ := f3_.symm; clear f1_ f2_ f3_; subst f4_; subst f5_))
       obtain ⟨Ao25, co25, eo25⟩ := Kd.R_slice HO121.out
       (first | subst eo25 | (injection eo25 with f1_ f2_ f3_; have f4_ := f1_.symm; have f5_ := f3_.symm; clear f1_ f2_ f3_; subst f4_; subst f5_))
       refine Kd.N_lit_step (Kd.slice 5 (Kd.int .u8)) _ 22 ?hg (N' := 37) ?hd (xs := ([y116, l0_2, t119] : List (List Int))) (inner := [.slice Ao24 y116.length co24, .slice A0_2 l0_2.length c0_2, .slice Ao25 t119.length co25]) (ok := (fun k_ => (P0_2_ k_ ∨ w.heap.size ≤ k_) ∧ k_ ≠ gb114)) (okp := (fun k_ => (P0_2_ k_ ∨ w.heap.size ≤ k_) ∧ k_ ≠ gb114)) ?hr ?hp (fun _ hk => hk) ((show ∀ k_, w'.heap.size ≤ k_ → (fun k_ => (P0_2_ k_ ∨ w.heap.size ≤ k_) ∧ k_ ≠ gb114) k_ from fun k_ hk => ⟨(.inr (Nat.le_trans (below_size (by qb1_ GE114)) hk)), Kd.freshB (g := gb114) (o := (of50_)) (by qk_; exact BK114.out) k_ hk⟩) _ (Nat.le_refl _)) (Below.refl _ _) (Nat.le_refl _) (by simp) ?_; (case hd => rfl); (case hg => rfl); (case hr => first | (go_simp; done) | (go_simp; rfl)); (case hp => exact (Reps.one (show Kd.FK (Kd.slice 5 (Kd.int .u8)) _ _ y116 [.slice Ao24 y116.length co24] from (Kd.FK_slice_mk (Kd.R_reads' (Kd.R_mono (ok' := (fun k_ => (P0_2_ k_ ∨ w.heap.size ≤ k_) ∧ k_ ≠ gb114)) (Kd.R_types (HO118.out) BK114.out (by decide)) (fun k_ hk => (pf51_)))).2.1 (Kd.R_F (Kd.R_mono (ok' := (fun k_ => (P0_2_ k_ ∨ w.heap.size ≤ k_) ∧ k_ ≠ gb114)) (Kd.R_types (HO118.out) BK114.out (by decide)) (fun k_ hk => (pf51_)))))) (Reps.one (show Kd.FK (Kd.slice 5 (Kd.int .u8)) _ _ l0_2 [.slice A0_2 l0_2.length c0_2] from (Kd.FK_slice_mk (Kd.V_reads' (Kd.V_mono (ok' := (fun k_ => (P0_2_ k_ ∨ w.heap.size ≤ k_) ∧ k_ ≠ gb114)) (HO_115002.out) (fun k_ hk => (by first | exact ⟨hk.1, hk.2.2.2⟩ | exact hk | grind)))).2.1 (Kd.V_F (Kd.V_mono (ok' := (fun k_ => (P0_2_ k_ ∨ w.heap.size ≤ k_) ∧ k_ ≠ gb114)) (HO_115002.out) (fun k_ hk => (by first | exact ⟨hk.1, hk.2.2.2⟩ | exact hk | grind)))))) (Reps.one (show Kd.FK (Kd.slice 5 (Kd.int .u8)) _ _ t119 [.slice Ao25 t119.length co25] from (Kd.FK_slice_mk (Kd.R_reads' (Kd.R_mono (ok' := (fun k_ => (P0_2_ k_ ∨ w.heap.size ≤ k_) ∧ k_ ≠ gb114)) (Kd.R_types (HO121.out) BK114.out (by decide)) (fun k_ hk => (pf51_)))).2.1 (Kd.R_F (Kd.R_mono (ok' := (fun k_ => (P0_2_ k_ ∨ w.heap.size ≤ k_) ∧ k_ ≠ gb114)) (Kd.R_types (HO121.out) BK114.out (by decide)) (fun k_ hk => (pf51_)))))) (Reps.none _ _)))))
       intro v123 w26 ho27 hb hg_ hnew_
       clear hg_ hnew_
       (first | rw [← Ny122.out] at ho27 | (simp only [Int.reduceToNat] at ho27; rw [← Ny122.out] at ho27))
       have n0_ := Aside0.mk (Kd.V_elder' (by qV_; exact HO_115002.out) (Kd.N_base ho27) hb)
       have n1_ := Aside0.mk (Kd.N_lower ho27 (below_size (by qb1_ GE114)))
       lf512_
       lf513_
       clear HO_115002
       clear BK114
       clear HB
       clear HO118
       clear HO121
       have HO_115002 := n0_
       have HO124 := n1_
       have BK114 := n2_
       have HB := n3_
       clear n0_ n1_ n2_ n3_
       clear hb ho27
       refine hK.out _ _ ⟨.slice Ao24 y116.length co24, .slice Ao25 t119.length co25, v123, v126, m19_, (by rw [ha.out]; exact putSel_upk 12 hb_ rfl rfl rfl), (by qV_; exact Kd.V_mono HO_115002.out (fun _ hk => (by first | exact ⟨hk.1.1, ⟨hk.2, hk.1.2.2.2⟩⟩ | exact hk | grind))), (by qk_; exact BK114.out), (by qb1_ GE114), fun _ h1_ => absurd ((up_self b 17).symm.trans h1_) (by decide), fun _ h1_ => absurd ((up_self b 17).symm.trans h1_) (by decide), fun _ => (by qN_; first | exact HO124.out | exact Kd.N_mono HO124.out (fun _ hk => by first | exact hk.1 | grind)), fun h0_ => absurd ((hoff 18 (by kernel_rfl)).symm.trans h0_) (by decide), fun h0_ => absurd ((hoff 19 (by kernel_rfl)).symm.trans h0_) (by decide)⟩
      refine steps_cons ?_ ?_
      ·lf52_
       refine ⟨_, rfl, fun K hK => ?_⟩
       have e37 : a.tmps[37]? = some (v123) := by rw [ha]; exact putSel_on (e := (17, 37, v123)) 12 rfl rfl (hon 17 (by kernel_rfl)) rfl
       replace ha := Aside0.mk ha
       have HO_115002 := Aside0.mk Q_HO_115002
       have BK114 := Aside0.mk Q_BK114
       have HB := Aside0.mk Q_HB
       have HO124 := Aside0.mk (Q_HO124 (hon 17 (by kernel_rfl)))
       obtain ⟨Ao28, co28, eo28⟩ := Kd.N_slice HO124.out
       (first | subst eo28 | (injection eo28 with f1_ f2_ f3_; have f4_ := f1_.symm; have f5_ := f3_.symm; clear f1_ f2_ f3_; subst f4_; subst f5_))
       refine goes_ Tryd.func20 (by kernel_rfl) rfl #[.slice Ao28 y122.length co28] (by rfl) rfl rfl (by first | (simp only [List.map_toArray, List.map_cons, List.map_nil, Act.eval, Array.getD_eq_getD_getElem?, Option.getD_some, e37]; done) | (simp only [List.map_toArray, List.map_cons, List.map_nil, Act.eval, Array.getD_eq_getD_getElem?, Option.getD_some, e37]; rfl)) ?_
       with_reducible refine (slices_Concat_byte_byte.calls _ _ y122 t125 _ ?side1 ?side2 A17.out).mono ?_
       (case side1 => repeat (first | exact (Kd.N_reads' HO124.out).2.2 | (with_reducible refine Kd.C_alloc ?_ _) | (with_reducible refine Kd.C_drewN ?_ _) | (with_reducible refine Kd.C_drew ?_)))
       (case side2 => exact (Kd.N_reads' HO124.out).2.1)
       rintro e w29 ⟨v126, rfl, ho0, hb⟩
       refine ⟨_, rfl, ?_⟩
       lf515_
       have n1_ := Aside0.mk (Kd.N_elder' (by qN_; exact HO124.out) (Kd.R_base ho0) hb)
       lf517_
       lf518_
       lf519_
       clear HO_115002
       clear HO124
       clear BK114
       clear HB
       have HO_115002 := n0_
       have HO124 := n1_
       have HO127 := n2_
       have BK114 := n3_
       have HB := n4_
       clear n0_ n1_ n2_ n3_ n4_
       (try clear hb)
       (try clear hb2)
       (try clear hk)
       (try clear hi)
       (try clear ho0)
       refine hK.out _ _ ⟨v117, v120, .slice Ao28 y122.length co28, v126, m19_, (by rw [ha.out]; exact putSel_upk 13 hb_ rfl rfl rfl), (pf55_), (by qk_; exact BK114.out), (by qb1_ GE114), fun _ h1_ => absurd ((hon 17 (by kernel_rfl)).symm.trans h1_) (by decide), fun _ h1_ => absurd ((hon 17 (by kernel_rfl)).symm.trans h1_) (by decide), fun _ => (by qN_; exact Kd.N_mono HO124.out (fun _ hk => (by first | exact ⟨hk.1.1, ⟨hk.2, hk.1.2⟩⟩ | exact hk | grind))), fun _ => (by qR_; exact Kd.R_mono HO127.out (fun _ hk => (pf56_))), fun h0_ => absurd ((hoff 19 (by kernel_rfl)).symm.trans h0_) (by decide)⟩
      refine steps_cons ?_ ?_
      ·lf52_
       refine ⟨_, rfl, fun K hK => ?_⟩
       have e38 : a.tmps[38]? = some (v126) := by rw [ha]; exact putSel_on (e := (18, 38, v126)) 13 rfl rfl (hon 18 (by kernel_rfl)) rfl
       replace ha := Aside0.mk ha
       have HO_115002 := Aside0.mk Q_HO_115002
       have BK114 := Aside0.mk Q_BK114
       have HB := Aside0.mk Q_HB
       have HO124 := Aside0.mk (Q_HO124 (hon 17 (by kernel_rfl)))
       have HO127 := Aside0.mk (Q_HO127 (hon 18 (by kernel_rfl)))
       refine value_ (w1 := w') (v := v126) (by rfl) rfl ?_ ?_
       ·go_simp
        (try simp only [i64_w])
        try rfl
       refine hK.out _ _ ⟨v117, v120, v123, v126, (v126), (by rw [ha.out]; exact putSel_upk 14 hb_ rfl rfl rfl), Q_HO_115002, Q_BK114, Q_HB, fun _ h1_ => absurd ((hon 17 (by kernel_rfl)).symm.trans h1_) (by decide), fun _ h1_ => absurd ((hon 17 (by kernel_rfl)).symm.trans h1_) (by decide), Q_HO124, Q_HO127, fun _ => rfl⟩
      exact steps_nil
     rintro b a w29 hall ⟨v117, v120, v123, v126, m19_, ha, Q_HO_115002, Q_BK114, Q_HB, Q_HO118, Q_HO121, Q_HO124, Q_HO127, Q_X19_⟩
     clear BK114 HB HO_115002
     have hb1_ := hall 1 (by kernel_rfl)
     have hb2_ := hall 2 (by kernel_rfl)
     have hb3_ := hall 3 (by kernel_rfl)
     have hb5_ := hall 5 (by kernel_rfl)
     have hb6_ := hall 6 (by kernel_rfl)
     have hb7_ := hall 7 (by kernel_rfl)
     have hb8_ := hall 8 (by kernel_rfl)
     have hb9_ := hall 9 (by kernel_rfl)
     have hb11_ := hall 11 (by kernel_rfl)
     have hb13_ := hall 13 (by kernel_rfl)
     have hb15_ := hall 15 (by kernel_rfl)
     have hb16_ := hall 16 (by kernel_rfl)
     have hb17_ := hall 17 (by kernel_rfl)
     have hb18_ := hall 18 (by kernel_rfl)
     have hb19_ := hall 19 (by kernel_rfl)
     subst ha
     obtain rfl := Q_X19_ hb19_
     simp only [putSel, hb1_, hb2_, hb3_, hb5_, hb6_, hb7_, hb8_, hb9_, hb11_, hb13_, hb15_, hb16_, hb17_, hb18_, hb19_, if_true, Act.put, List.setIfInBounds_toArray, List.set_cons_zero, List.set_cons_succ]
     have HO_115002 := Aside0.mk Q_HO_115002
     clear Q_HO_115002
     have BK114 := Aside0.mk Q_BK114
     clear Q_BK114
     have HB := Aside0.mk Q_HB
     clear Q_HB
     clear Q_HO118
     clear Q_HO121
     have HO124 := Aside0.mk (Q_HO124 hb17_)
     clear Q_HO124
     have HO127 := Aside0.mk (Q_HO127 hb18_)
     clear Q_HO127
     clear hall hb1_ hb2_ hb3_ hb5_ hb6_ hb7_ hb8_ hb9_ hb11_ hb13_ hb15_ hb16_ hb17_ hb18_ hb19_
     try go_wp2
     go_ret
     exact ⟨_, by first | rfl | (simp [errW_none, errW_some] <;> rfl) | (simp [*, errW_none, errW_some] <;> rfl), by qR_; exact HO127.out, by qb1_ GE114⟩
    ·rw [if_neg c15] at H
     have c15b0 : (a0_0 == 3) = false := beq_eq_false_iff_ne.mpr c15
     have c15b1 : (a0_0 != 3) = true := bne_iff_ne.mpr c15
     obtain ⟨y128, hy128⟩ : ∃ y_ : List Int, y_ = (([(wrap64 ((wrap64 ((wrap64 (192 + (wrap64 (16 * a0_0)))) + a0_7)) - 1)) % 256] : List Int)) := ⟨_, rfl⟩
     replace H : ((header_big.f kj2 a0_1 4).bind fun t131 => ((header_named.f l0_2).bind fun t134 => ((header_named.f l0_3).bind fun t137 => ((slices_Concat_byte_byte.f (([y128, t131, t134, t137] : List (List Int)))).bind fun t143 => (pf50_))))) = some r := by first | (rw [hy128]; with_reducible exact H) | (have H2_ := (Option.bind_some _ _).symm.trans H; rw [hy128]; with_reducible exact H2_) | (have H2_ := (Option.bind_some _ _).symm.trans H; with_reducible exact H2_) | with_reducible exact H | (rw [hy128]; exact H) | exact H
     have Ny128 := Aside0.mk hy128
     clear hy128
     lf50_
     obtain ⟨t131, A300, H⟩ := H
     replace H : ((header_named.f l0_2).bind fun t134 => ((header_named.f l0_3).bind fun t137 => ((slices_Concat_byte_byte.f (([y128, t131, t134, t137] : List (List Int)))).bind fun t143 => (pf50_)))) = some r := H
     have A30 := Aside0.mk A300
     clear A300
     lf50_
     obtain ⟨t134, A310, H⟩ := H
     replace H : ((header_named.f l0_3).bind fun t137 => ((slices_Concat_byte_byte.f (([y128, t131, t134, t137] : List (List Int)))).bind fun t143 => (pf50_))) = some r := H
     have A31 := Aside0.mk A310
     clear A310
     lf50_
     obtain ⟨t137, A320, H⟩ := H
     replace H : ((slices_Concat_byte_byte.f (([y128, t131, t134, t137] : List (List Int)))).bind fun t143 => (pf50_)) = some r := H
     have A32 := Aside0.mk A320
     clear A320
     obtain ⟨y140, hy140⟩ : ∃ y_ : List (List Int), y_ = (([y128, t131, t134, t137] : List (List Int))) := ⟨_, rfl⟩
     replace H : ((slices_Concat_byte_byte.f y140).bind fun t143 => (pf50_)) = some r := by first | (rw [hy140]; with_reducible exact H) | (have H2_ := (Option.bind_some _ _).symm.trans H; rw [hy140]; with_reducible exact H2_) | (have H2_ := (Option.bind_some _ _).symm.trans H; with_reducible exact H2_) | with_reducible exact H | (rw [hy140]; exact H) | exact H
     have Ny140 := Aside0.mk hy140
     clear hy140
     lf50_
     obtain ⟨t143, A330, H⟩ := H
     replace H : (pf50_) = some r := H
     have A33 := Aside0.mk A330
     clear A330
     by_cases c34 : a0_0 = 0
     ·rw [if_pos c34] at H
      have c34b0 : (a0_0 == 0) = true := beq_iff_eq.mpr c34
      have c34b1 : (a0_0 != 0) = false := bne_eq_false_iff_eq.mpr c34
      clear c34
      lf50_
      obtain ⟨t146, A350, H⟩ := H
      replace H : ((varint_Append.f kj2 t146 (wrap64 (a0_7 + a1))).bind fun t149 => ((header_big.f kj2 a0_6 a0_7).bind fun t152 => (pf57_))) = some r := H
      have A35 := Aside0.mk A350
      clear A350
      lf50_
      obtain ⟨t149, A360, H⟩ := H
      replace H : ((header_big.f kj2 a0_6 a0_7).bind fun t152 => (pf57_)) = some r := H
      have A36 := Aside0.mk A360
      clear A360
      lf50_
      obtain ⟨t152, A370, H⟩ := H
      replace H : (pf57_) = some r := H
      have A37 := Aside0.mk A370
      clear A370
      by_cases c38 : t149.length + t152.length < 140737488355328
      ·rw [if_pos c38] at H
       have LMc38 := Aside0.mk c38
       clear c38
       obtain ⟨y155, hy155⟩ : ∃ y_ : List Int, y_ = (t149 ++ t152) := ⟨_, rfl⟩
       replace H : (some y155) = some r := by first | (rw [hy155]; with_reducible exact H) | (have H2_ := (Option.bind_some _ _).symm.trans H; rw [hy155]; with_reducible exact H2_) | (have H2_ := (Option.bind_some _ _).symm.trans H; with_reducible exact H2_) | with_reducible exact H | (rw [hy155]; exact H) | exact H
       have Ny155 := Aside0.mk hy155
       clear hy155
       obtain rfl := Option.some.inj H
       have hcz39_0 : wc.cell? ⟨gb114, 0, none⟩ = some (.int .i64 a0_0) := (blk_cell BK114.out 0).trans rfl
       have hcz39_1 : wc.cell? ⟨gb114, 1, none⟩ = some (.int .i64 a0_1) := (blk_cell BK114.out 1).trans rfl
       have hcz39_2 : wc.cell? ⟨gb114, 2, none⟩ = some (.slice A0_2 l0_2.length c0_2) := (blk_cell BK114.out 2).trans rfl
       have hcz39_3 : wc.cell? ⟨gb114, 3, none⟩ = some (.slice A0_3 l0_3.length c0_3) := (blk_cell BK114.out 3).trans rfl
       have hcz39_4 : wc.cell? ⟨gb114, 4, none⟩ = some (.slice A0_4 l0_4.length c0_4) := (blk_cell BK114.out 4).trans rfl
       have hcz39_5 : wc.cell? ⟨gb114, 5, none⟩ = some (.int .i64 a0_5) := (blk_cell BK114.out 5).trans rfl
       have hcz39_6 : wc.cell? ⟨gb114, 6, none⟩ = some (.int .i64 a0_6) := (blk_cell BK114.out 6).trans rfl
       have hcz39_7 : wc.cell? ⟨gb114, 7, none⟩ = some (.int .i64 a0_7) := (blk_cell BK114.out 7).trans rfl
       have hfz39_0 := blk_frozen BK114.out 0
       have hfz39_1 := blk_frozen BK114.out 1
       have hfz39_2 := blk_frozen BK114.out 2
       have hfz39_3 := blk_frozen BK114.out 3
       have hfz39_4 := blk_frozen BK114.out 4
       have hfz39_5 := blk_frozen BK114.out 5
       have hfz39_6 := blk_frozen BK114.out 6
       have hfz39_7 := blk_frozen BK114.out 7
       try go_wp2
       lf51_
       have n1_ := Aside0.mk (blk_drew BK114.out)
       have n2_ := Aside0.mk (below_drew1 HB.out)
       clear HO_115002
       clear BK114
       clear HB
       have HO_115002 := n0_
       have BK114 := n1_
       have HB := n2_
       clear n0_ n1_ n2_
       lf520_
       generalize wc.drew = w40 at HO_115002 BK114 HB hHeld ⊢
       lf521_
       rotate_left
       ·intro w'
        go_simp
        with_reducible rfl
       rotate_left
       ·qp_
        rfl
       lf522_
       rotate_left
       ·intro w'
        go_simp
        with_reducible rfl
       rotate_left
       ·qp_
        rfl
       lf523_
       rotate_left
       ·intro w'
        go_simp
        with_reducible rfl
       rotate_left
       ·qp_
        rfl
       lf524_
       rotate_left
       ·intro w'
        go_simp
        with_reducible rfl
       rotate_left
       ·qp_
        rfl
       lf525_
       rotate_left
       ·intro w'
        go_simp
        with_reducible rfl
       rotate_left
       ·qp_
        rfl
       lf526_
       ·lf527_
       ·skip
        clear BK114 HB HO_115002
        refine steps_cons ?_ ?_
        ·lf528_
         refine ⟨_, rfl, fun K hK => ?_⟩
         have e39 : a.tmps[39]? = some (.pointer (some ⟨gb114, 0, none⟩)) := by rw [ha]; exact (putSel_off rfl).trans rfl
         replace ha := Aside0.mk ha
         have HO_115002 := Aside0.mk Q_HO_115002
         have BK114 := Aside0.mk Q_BK114
         have HB := Aside0.mk Q_HB
         lf53_
         lf54_
         lf55_
         lf56_
         lf57_
         lf58_
         lf59_
         lf510_
         refine value_ (w1 := w') (v := .int .i64 a0_0) (by rfl) rfl ?_ ?_
         ·go_simp
          (try simp only [i64_w])
          try rfl
         lf529_
        refine steps_cons ?_ ?_
        ·lf528_
         refine ⟨_, rfl, fun K hK => ?_⟩
         lf530_
         replace ha := Aside0.mk ha
         have HO_115002 := Aside0.mk Q_HO_115002
         have BK114 := Aside0.mk Q_BK114
         have HB := Aside0.mk Q_HB
         refine value_ (w1 := w') (v := .int .i64 (wrap64 (16 * a0_0))) (by rfl) rfl ?_ ?_
         ·go_simp
          (try simp only [i64_w])
          try rfl
         lf531_
        refine steps_cons ?_ ?_
        ·lf528_
         refine ⟨_, rfl, fun K hK => ?_⟩
         lf532_
         replace ha := Aside0.mk ha
         have HO_115002 := Aside0.mk Q_HO_115002
         have BK114 := Aside0.mk Q_BK114
         have HB := Aside0.mk Q_HB
         refine value_ (w1 := w') (v := .int .i64 (wrap64 (192 + (wrap64 (16 * a0_0))))) (by rfl) rfl ?_ ?_
         ·go_simp
          (try simp only [i64_w])
          try rfl
         lf533_
        refine steps_cons ?_ ?_
        ·lf528_
         refine ⟨_, rfl, fun K hK => ?_⟩
         have e43 : a.tmps[43]? = some (.pointer (some ⟨gb114, 7, none⟩)) := by rw [ha]; exact (putSel_off rfl).trans rfl
         replace ha := Aside0.mk ha
         have HO_115002 := Aside0.mk Q_HO_115002
         have BK114 := Aside0.mk Q_BK114
         have HB := Aside0.mk Q_HB
         lf53_
         lf54_
         lf55_
         lf56_
         lf57_
         lf58_
         lf59_
         lf510_
         lf511_
         ·go_simp
          (try simp only [i64_w])
          try rfl
         lf534_
        refine steps_cons ?_ ?_
        ·lf528_
         refine ⟨_, rfl, fun K hK => ?_⟩
         lf535_
         lf536_
         replace ha := Aside0.mk ha
         have HO_115002 := Aside0.mk Q_HO_115002
         have BK114 := Aside0.mk Q_BK114
         have HB := Aside0.mk Q_HB
         refine value_ (w1 := w') (v := .int .i64 (wrap64 ((wrap64 (192 + (wrap64 (16 * a0_0)))) + a0_7))) (by rfl) rfl ?_ ?_
         ·go_simp
          (try simp only [i64_w])
          try rfl
         lf537_
        refine steps_cons ?_ ?_
        ·lf528_
         refine ⟨_, rfl, fun K hK => ?_⟩
         lf538_
         replace ha := Aside0.mk ha
         have HO_115002 := Aside0.mk Q_HO_115002
         have BK114 := Aside0.mk Q_BK114
         have HB := Aside0.mk Q_HB
         refine value_ (w1 := w') (v := .int .i64 (wrap64 ((wrap64 ((wrap64 (192 + (wrap64 (16 * a0_0)))) + a0_7)) - 1))) (by rfl) rfl ?_ ?_
         ·go_simp
          (try simp only [i64_w])
          try rfl
         lf539_
        refine steps_cons ?_ ?_
        ·lf528_
         refine ⟨_, rfl, fun K hK => ?_⟩
         lf540_
         replace ha := Aside0.mk ha
         have HO_115002 := Aside0.mk Q_HO_115002
         have BK114 := Aside0.mk Q_BK114
         have HB := Aside0.mk Q_HB
         refine value_ (w1 := w') (v := .int .u8 ((wrap64 ((wrap64 ((wrap64 (192 + (wrap64 (16 * a0_0)))) + a0_7)) - 1)) % 256)) (by rfl) rfl ?_ ?_
         ·go_simp
          (try simp only [i64_w])
          try rfl
         lf541_
        refine steps_cons ?_ ?_
        ·lf528_
         refine ⟨_, rfl, fun K hK => ?_⟩
         lf542_
         replace ha := Aside0.mk ha
         have HO_115002 := Aside0.mk Q_HO_115002
         have BK114 := Aside0.mk Q_BK114
         have HB := Aside0.mk Q_HB
         lf543_
         intro v129 w41 ho42 hb hg_ hnew_
         clear hg_ hnew_
         (first | rw [← Ny128.out] at ho42 | (simp only [Int.reduceToNat] at ho42; rw [← Ny128.out] at ho42))
         have n0_ := Aside0.mk (Kd.V_elder' (by qV_; exact HO_115002.out) (Kd.R_base ho42) hb)
         have n1_ := Aside0.mk (Kd.R_lower (Kd.R_newM (M := fun k_ => (w.heap.size ≤ k_)) ho42 (below_size (by qb1_ GE114)) (fun k_ h_ => h_)) (below_size (by qb1_ GE114)))
         lf512_
         lf513_
         have z_HO133 := fun (h0_ : b 12 = true) (h1_ : b 19 = false) => (show Kd.R (Kd.int .u8) 5 w41 w.heap.size (fun k_ => (w.heap.size ≤ k_)) v132 t131 from by first | exact (Kd.R_elder' (by qR_; exact (Q_HO133 h0_ h1_)) (Kd.R_base ho42) hb) | exact Kd.R_mono (Kd.R_elder' (by qR_; exact (Q_HO133 h0_ h1_)) (Kd.R_base ho42) hb) (fun _ h_ => by first | trivial | exact h_ | exact h_.1))
         have z_HO136 := fun (h0_ : b 15 = true) (h1_ : b 19 = false) => (show Kd.R (Kd.int .u8) 5 w41 w.heap.size (fun k_ => (w.heap.size ≤ k_)) v135 t134 from by first | exact (Kd.R_elder' (by qR_; exact (Q_HO136 h0_ h1_)) (Kd.R_base ho42) hb) | exact Kd.R_mono (Kd.R_elder' (by qR_; exact (Q_HO136 h0_ h1_)) (Kd.R_base ho42) hb) (fun _ h_ => by first | trivial | exact h_ | exact h_.1))
         have z_HO139 := fun (h0_ : b 18 = true) (h1_ : b 19 = false) => (show Kd.R (Kd.int .u8) 5 w41 w.heap.size (fun k_ => (w.heap.size ≤ k_)) v138 t137 from by first | exact (Kd.R_elder' (by qR_; exact (Q_HO139 h0_ h1_)) (Kd.R_base ho42) hb) | exact Kd.R_mono (Kd.R_elder' (by qR_; exact (Q_HO139 h0_ h1_)) (Kd.R_base ho42) hb) (fun _ h_ => by first | trivial | exact h_ | exact h_.1))
         clear HO_115002
         clear BK114
         clear HB
         have HO_115002 := n0_
         have HO130 := n1_
         have BK114 := n2_
         have HB := n3_
         clear n0_ n1_ n2_ n3_
         clear hb ho42
         lf544_
        refine steps_cons ?_ ?_
        ·lf528_
         refine ⟨_, rfl, fun K hK => ?_⟩
         have e49 : a.tmps[49]? = some (.pointer (some ⟨gb114, 1, none⟩)) := by rw [ha]; exact (putSel_off rfl).trans rfl
         replace ha := Aside0.mk ha
         have HO_115002 := Aside0.mk Q_HO_115002
         have BK114 := Aside0.mk Q_BK114
         have HB := Aside0.mk Q_HB
         lf53_
         lf54_
         lf55_
         lf56_
         lf57_
         lf58_
         lf59_
         lf510_
         refine value_ (w1 := w') (v := .int .i64 a0_1) (by rfl) rfl ?_ ?_
         ·go_simp
          (try simp only [i64_w])
          try rfl
         lf545_
        refine steps_cons ?_ ?_
        ·lf528_
         refine ⟨_, rfl, fun K hK => ?_⟩
         lf546_
         replace ha := Aside0.mk ha
         have HO_115002 := Aside0.mk Q_HO_115002
         have BK114 := Aside0.mk Q_BK114
         have HB := Aside0.mk Q_HB
         lf547_
         with_reducible refine (header_big.calls kj2 a0_1 4 t131 _ A30.out).mono ?_
         rintro e w41 ⟨v132, rfl, ho0, hb⟩
         refine ⟨_, rfl, ?_⟩
         lf515_
         lf516_
         lf512_
         lf513_
         have z_HO130 := fun (h0_ : b 9 = true) (h1_ : b 19 = false) => (show Kd.R (Kd.int .u8) 5 w41 w.heap.size (fun k_ => (w.heap.size ≤ k_)) v129 y128 from by first | exact (Kd.R_elder' (by qR_; exact (Q_HO130 h0_ h1_)) (Kd.R_base ho0) hb) | exact Kd.R_mono (Kd.R_elder' (by qR_; exact (Q_HO130 h0_ h1_)) (Kd.R_base ho0) hb) (fun _ h_ => by first | trivial | exact h_ | exact h_.1))
         clear HO_115002
         clear BK114
         clear HB
         have HO_115002 := n0_
         have HO133 := n1_
         have BK114 := n2_
         have HB := n3_
         clear n0_ n1_ n2_ n3_
         (try clear hb)
         (try clear hb2)
         (try clear hk)
         (try clear hi)
         (try clear ho0)
         lf548_
        refine steps_cons ?_ ?_
        ·lf528_
         refine ⟨_, rfl, fun K hK => ?_⟩
         have e52 : a.tmps[52]? = some (.pointer (some ⟨gb114, 2, none⟩)) := by rw [ha]; exact (putSel_off rfl).trans rfl
         replace ha := Aside0.mk ha
         have HO_115002 := Aside0.mk Q_HO_115002
         have BK114 := Aside0.mk Q_BK114
         have HB := Aside0.mk Q_HB
         lf53_
         lf54_
         lf55_
         lf56_
         lf57_
         lf58_
         lf59_
         lf510_
         lf514_
         ·go_simp
          (try simp only [i64_w])
          try rfl
         lf549_
        refine steps_cons ?_ ?_
        ·lf528_
         refine ⟨_, rfl, fun K hK => ?_⟩
         lf550_
         replace ha := Aside0.mk ha
         have HO_115002 := Aside0.mk Q_HO_115002
         have BK114 := Aside0.mk Q_BK114
         have HB := Aside0.mk Q_HB
         lf551_
         lf552_
         with_reducible refine (header_named.calls _ _ l0_2 t134 _ ?side1 ?side2 A31.out).mono ?_
         lf553_
         (case side2 => exact (Kd.V_reads' HO_115002.out).2.1)
         rintro e w43 ⟨v135, rfl, ho0, hb⟩
         refine ⟨_, rfl, ?_⟩
         lf515_
         lf554_
         lf555_
         lf518_
         lf519_
         have z_HO130 := fun (h0_ : b 9 = true) (h1_ : b 19 = false) => (show Kd.R (Kd.int .u8) 5 w43 w.heap.size (fun k_ => (w.heap.size ≤ k_)) v129 y128 from by first | exact (Kd.R_elder' (by qR_; exact (Q_HO130 h0_ h1_)) (Kd.R_base ho0) hb) | exact Kd.R_mono (Kd.R_elder' (by qR_; exact (Q_HO130 h0_ h1_)) (Kd.R_base ho0) hb) (fun _ h_ => by first | trivial | exact h_ | exact h_.1))
         clear HO_115002
         clear HO133
         clear BK114
         clear HB
         have HO_115002 := n0_
         have HO133 := n1_
         have HO136 := n2_
         have BK114 := n3_
         have HB := n4_
         clear n0_ n1_ n2_ n3_ n4_
         (try clear hb)
         (try clear hb2)
         (try clear hk)
         (try clear hi)
         (try clear ho0)
         lf556_
        refine steps_cons ?_ ?_
        ·lf528_
         refine ⟨_, rfl, fun K hK => ?_⟩
         have e55 : a.tmps[55]? = some (.pointer (some ⟨gb114, 3, none⟩)) := by rw [ha]; exact (putSel_off rfl).trans rfl
         replace ha := Aside0.mk ha
         have HO_115002 := Aside0.mk Q_HO_115002
         have BK114 := Aside0.mk Q_BK114
         have HB := Aside0.mk Q_HB
         lf53_
         lf54_
         lf55_
         lf56_
         lf57_
         lf58_
         lf59_
         lf510_
         refine value_ (w1 := w') (v := .slice A0_3 l0_3.length c0_3) (by rfl) rfl ?_ ?_
         ·go_simp
          (try simp only [i64_w])
          try rfl
         lf557_
        refine steps_cons ?_ ?_
        ·lf528_
         refine ⟨_, rfl, fun K hK => ?_⟩
         lf558_
         replace ha := Aside0.mk ha
         have HO_115002 := Aside0.mk Q_HO_115002
         have BK114 := Aside0.mk Q_BK114
         have HB := Aside0.mk Q_HB
         lf551_
         have HO136 := Aside0.mk (Q_HO136 (hon 15 (by kernel_rfl)) (hoff 19 (by kernel_rfl)))
         lf559_
         with_reducible refine (header_named.calls _ _ l0_3 t137 _ ?side1 ?side2 A32.out).mono ?_
         lf560_
         (case side2 => exact HC0_3.out)
         rintro e w44 ⟨v138, rfl, ho0, hb⟩
         refine ⟨_, rfl, ?_⟩
         lf515_
         lf554_
         have n2_ := Aside0.mk (Kd.R_elder' (by qR_; exact HO136.out) (Kd.R_base ho0) hb)
         lf561_
         lf562_
         have n5_ := Aside0.mk (below_step (by qb1_ GE114) hb)
         have z_HO130 := fun (h0_ : b 9 = true) (h1_ : b 19 = false) => (show Kd.R (Kd.int .u8) 5 w44 w.heap.size (fun k_ => (w.heap.size ≤ k_)) v129 y128 from by first | exact (Kd.R_elder' (by qR_; exact (Q_HO130 h0_ h1_)) (Kd.R_base ho0) hb) | exact Kd.R_mono (Kd.R_elder' (by qR_; exact (Q_HO130 h0_ h1_)) (Kd.R_base ho0) hb) (fun _ h_ => by first | trivial | exact h_ | exact h_.1))
         clear HO_115002
         clear HO133
         clear HO136
         clear BK114
         clear HB
         have HO_115002 := n0_
         have HO133 := n1_
         have HO136 := n2_
         have HO139 := n3_
         have BK114 := n4_
         have HB := n5_
         clear n0_ n1_ n2_ n3_ n4_ n5_
         (try clear hb)
         (try clear hb2)
         (try clear hk)
         (try clear hi)
         (try clear ho0)
         lf563_
        refine steps_cons ?_ ?_
        ·lf528_
         refine ⟨_, rfl, fun K hK => ?_⟩
         have e48 : a.tmps[48]? = some (v129) := by rw [ha]; exact putSel_on (e := (9, 48, v129)) 7 rfl rfl (hon 9 (by kernel_rfl)) rfl
         have e51 : a.tmps[51]? = some (v132) := by rw [ha]; exact putSel_on (e := (12, 51, v132)) 9 rfl rfl (hon 12 (by kernel_rfl)) rfl
         have e54 : a.tmps[54]? = some (v135) := by rw [ha]; exact putSel_on (e := (15, 54, v135)) 11 rfl rfl (hon 15 (by kernel_rfl)) rfl
         have e57 : a.tmps[57]? = some (v138) := by rw [ha]; exact putSel_on (e := (18, 57, v138)) 13 rfl rfl (hon 18 (by kernel_rfl)) rfl
         replace ha := Aside0.mk ha
         have HO_115002 := Aside0.mk Q_HO_115002
         have BK114 := Aside0.mk Q_BK114
         have HB := Aside0.mk Q_HB
         have HO130 := Aside0.mk (Q_HO130 (hon 9 (by kernel_rfl)) hb_)
         have HO133 := Aside0.mk (Q_HO133 (hon 12 (by kernel_rfl)) hb_)
         have HO136 := Aside0.mk (Q_HO136 (hon 15 (by kernel_rfl)) hb_)
         have HO139 := Aside0.mk (Q_HO139 (hon 18 (by kernel_rfl)) hb_)
         obtain ⟨Ao47, co47, eo47⟩ := Kd.R_slice HO130.out
         (first | subst eo47 | (injection eo47 with f1_ f2_ f3_; have f4_ := f1_.symm; have f5_ := f3_.symm; clear f1_ f2_ f3_; subst f4_; subst f5_))
         obtain ⟨Ao48, co48, eo48⟩ := Kd.R_slice HO133.out
         (first | subst eo48 | (injection eo48 with f1_ f2_ f3_; have f4_ := f1_.symm; have f5_ := f3_.symm; clear f1_ f2_ f3_; subst f4_; subst f5_))
         obtain ⟨Ao49, co49, eo49⟩ := Kd.R_slice HO136.out
         (first | subst eo49 | (injection eo49 with f1_ f2_ f3_; have f4_ := f1_.symm; have f5_ := f3_.symm; clear f1_ f2_ f3_; subst f4_; subst f5_))
         obtain ⟨Ao50, co50, eo50⟩ := Kd.R_slice HO139.out
         (first | subst eo50 | (injection eo50 with f1_ f2_ f3_; have f4_ := f1_.symm; have f5_ := f3_.symm; clear f1_ f2_ f3_; subst f4_; subst f5_))
         refine Kd.N_lit_step (Kd.slice 5 (Kd.int .u8)) _ 22 ?hg (N' := 58) ?hd (xs := ([y128, t131, t134, t137] : List (List Int))) (inner := [.slice Ao47 y128.length co47, .slice Ao48 t131.length co48, .slice Ao49 t134.length co49, .slice Ao50 t137.length co50]) (ok := (fun k_ => (P0_2_ k_ ∨ w.heap.size ≤ k_) ∧ k_ ≠ gb114)) (okp := (fun k_ => (P0_2_ k_ ∨ w.heap.size ≤ k_) ∧ k_ ≠ gb114)) ?hr ?hp (fun _ hk => hk) ((show ∀ k_, w'.heap.size ≤ k_ → (fun k_ => (P0_2_ k_ ∨ w.heap.size ≤ k_) ∧ k_ ≠ gb114) k_ from fun k_ hk => ⟨(.inr (Nat.le_trans (below_size (by qb1_ GE114)) hk)), Kd.freshB (g := gb114) (o := (of50_)) (by qk_; exact BK114.out) k_ hk⟩) _ (Nat.le_refl _)) (Below.refl _ _) (Nat.le_refl _) (by simp) ?_; (case hd => rfl); (case hg => rfl); (case hr => first | (go_simp; done) | (go_simp; rfl)); (case hp => exact (Reps.one (show Kd.FK (Kd.slice 5 (Kd.int .u8)) _ _ y128 [.slice Ao47 y128.length co47] from (Kd.FK_slice_mk (Kd.R_reads' (Kd.R_mono (ok' := (fun k_ => (P0_2_ k_ ∨ w.heap.size ≤ k_) ∧ k_ ≠ gb114)) (Kd.R_types (HO130.out) BK114.out (by decide)) (fun k_ hk => (pf51_)))).2.1 (Kd.R_F (Kd.R_mono (ok' := (fun k_ => (P0_2_ k_ ∨ w.heap.size ≤ k_) ∧ k_ ≠ gb114)) (Kd.R_types (HO130.out) BK114.out (by decide)) (fun k_ hk => (pf51_)))))) (Reps.one (show Kd.FK (Kd.slice 5 (Kd.int .u8)) _ _ t131 [.slice Ao48 t131.length co48] from (Kd.FK_slice_mk (Kd.R_reads' (Kd.R_mono (ok' := (fun k_ => (P0_2_ k_ ∨ w.heap.size ≤ k_) ∧ k_ ≠ gb114)) (Kd.R_types (HO133.out) BK114.out (by decide)) (fun k_ hk => (pf51_)))).2.1 (Kd.R_F (Kd.R_mono (ok' := (fun k_ => (P0_2_ k_ ∨ w.heap.size ≤ k_) ∧ k_ ≠ gb114)) (Kd.R_types (HO133.out) BK114.out (by decide)) (fun k_ hk => (pf51_)))))) (Reps.one (show Kd.FK (Kd.slice 5 (Kd.int .u8)) _ _ t134 [.slice Ao49 t134.length co49] from (Kd.FK_slice_mk (Kd.R_reads' (Kd.R_mono (ok' := (fun k_ => (P0_2_ k_ ∨ w.heap.size ≤ k_) ∧ k_ ≠ gb114)) (Kd.R_types (HO136.out) BK114.out (by decide)) (fun k_ hk => (pf51_)))).2.1 (Kd.R_F (Kd.R_mono (ok' := (fun k_ => (P0_2_ k_ ∨ w.heap.size ≤ k_) ∧ k_ ≠ gb114)) (Kd.R_types (HO136.out) BK114.out (by decide)) (fun k_ hk => (pf51_)))))) (Reps.one (show Kd.FK (Kd.slice 5 (Kd.int .u8)) _ _ t137 [.slice Ao50 t137.length co50] from (Kd.FK_slice_mk (Kd.R_reads' (Kd.R_mono (ok' := (fun k_ => (P0_2_ k_ ∨ w.heap.size ≤ k_) ∧ k_ ≠ gb114)) (Kd.R_types (HO139.out) BK114.out (by decide)) (fun k_ hk => (pf51_)))).2.1 (Kd.R_F (Kd.R_mono (ok' := (fun k_ => (P0_2_ k_ ∨ w.heap.size ≤ k_) ∧ k_ ≠ gb114)) (Kd.R_types (HO139.out) BK114.out (by decide)) (fun k_ hk => (pf51_)))))) (Reps.none _ _))))))
         intro v141 w51 ho52 hb hg_ hnew_
         clear hg_ hnew_
         (first | rw [← Ny140.out] at ho52 | (simp only [Int.reduceToNat] at ho52; rw [← Ny140.out] at ho52))
         have n0_ := Aside0.mk (Kd.V_elder' (by qV_; exact HO_115002.out) (Kd.N_base ho52) hb)
         have n1_ := Aside0.mk (Kd.N_lower ho52 (below_size (by qb1_ GE114)))
         lf512_
         lf513_
         clear HO_115002
         clear BK114
         clear HB
         clear HO130
         clear HO133
         clear HO136
         clear HO139
         have HO_115002 := n0_
         have HO142 := n1_
         have BK114 := n2_
         have HB := n3_
         clear n0_ n1_ n2_ n3_
         clear hb ho52
         refine hK.out _ _ ⟨.slice Ao47 y128.length co47, .slice Ao48 t131.length co48, .slice Ao49 t134.length co49, .slice Ao50 t137.length co50, v141, v144, m21_, (by rw [ha.out]; exact putSel_upk 14 hb_ rfl rfl rfl), (by qV_; exact Kd.V_mono HO_115002.out (fun _ hk => (by first | exact ⟨hk.1.1, ⟨hk.2, hk.1.2.2.2.2.2⟩⟩ | exact hk | grind))), (by qk_; exact BK114.out), (by qb1_ GE114), fun _ h1_ => absurd ((up_self b 19).symm.trans h1_) (by decide), fun _ h1_ => absurd ((up_self b 19).symm.trans h1_) (by decide), fun _ h1_ => absurd ((up_self b 19).symm.trans h1_) (by decide), fun _ h1_ => absurd ((up_self b 19).symm.trans h1_) (by decide), fun _ => (by qN_; first | exact HO142.out | exact Kd.N_mono HO142.out (fun _ hk => by first | exact hk.1 | grind)), fun h0_ => absurd ((hoff 20 (by kernel_rfl)).symm.trans h0_) (by decide), fun h0_ => absurd ((hoff 21 (by kernel_rfl)).symm.trans h0_) (by decide)⟩
        refine steps_cons ?_ ?_
        ·lf528_
         refine ⟨_, rfl, fun K hK => ?_⟩
         have e58 : a.tmps[58]? = some (v141) := by rw [ha]; exact putSel_on (e := (19, 58, v141)) 14 rfl rfl (hon 19 (by kernel_rfl)) rfl
         replace ha := Aside0.mk ha
         have HO_115002 := Aside0.mk Q_HO_115002
         have BK114 := Aside0.mk Q_BK114
         have HB := Aside0.mk Q_HB
         lf564_
         obtain ⟨Ao53, co53, eo53⟩ := Kd.N_slice HO142.out
         (first | subst eo53 | (injection eo53 with f1_ f2_ f3_; have f4_ := f1_.symm; have f5_ := f3_.symm; clear f1_ f2_ f3_; subst f4_; subst f5_))
         refine goes_ Tryd.func20 (by kernel_rfl) rfl #[.slice Ao53 y140.length co53] (by rfl) rfl rfl (by first | (simp only [List.map_toArray, List.map_cons, List.map_nil, Act.eval, Array.getD_eq_getD_getElem?, Option.getD_some, e58]; done) | (simp only [List.map_toArray, List.map_cons, List.map_nil, Act.eval, Array.getD_eq_getD_getElem?, Option.getD_some, e58]; rfl)) ?_
         with_reducible refine (slices_Concat_byte_byte.calls _ _ y140 t143 _ ?side1 ?side2 A33.out).mono ?_
         lf565_
         (case side2 => exact (Kd.N_reads' HO142.out).2.1)
         rintro e w54 ⟨v144, rfl, ho0, hb⟩
         refine ⟨_, rfl, ?_⟩
         lf515_
         lf566_
         lf517_
         lf518_
         lf519_
         clear HO_115002
         clear HO142
         clear BK114
         clear HB
         have HO_115002 := n0_
         have HO142 := n1_
         have HO145 := n2_
         have BK114 := n3_
         have HB := n4_
         clear n0_ n1_ n2_ n3_ n4_
         (try clear hb)
         (try clear hb2)
         (try clear hk)
         (try clear hi)
         (try clear ho0)
         refine hK.out _ _ ⟨v129, v132, v135, v138, .slice Ao53 y140.length co53, v144, m21_, (by rw [ha.out]; exact putSel_upk 15 hb_ rfl rfl rfl), (pf55_), (by qk_; exact BK114.out), (by qb1_ GE114), fun _ h1_ => absurd ((hon 19 (by kernel_rfl)).symm.trans h1_) (by decide), fun _ h1_ => absurd ((hon 19 (by kernel_rfl)).symm.trans h1_) (by decide), fun _ h1_ => absurd ((hon 19 (by kernel_rfl)).symm.trans h1_) (by decide), fun _ h1_ => absurd ((hon 19 (by kernel_rfl)).symm.trans h1_) (by decide), fun _ => (by qN_; exact Kd.N_mono HO142.out (fun _ hk => (by first | exact ⟨hk.1.1, ⟨hk.2, hk.1.2⟩⟩ | exact hk | grind))), fun _ => (by qR_; exact Kd.R_mono HO145.out (fun _ hk => (pf56_))), fun h0_ => absurd ((hoff 21 (by kernel_rfl)).symm.trans h0_) (by decide)⟩
        refine steps_cons ?_ ?_
        ·lf528_
         refine ⟨_, rfl, fun K hK => ?_⟩
         have e59 : a.tmps[59]? = some (v144) := by rw [ha]; exact putSel_on (e := (20, 59, v144)) 15 rfl rfl (hon 20 (by kernel_rfl)) rfl
         replace ha := Aside0.mk ha
         have HO_115002 := Aside0.mk Q_HO_115002
         have BK114 := Aside0.mk Q_BK114
         have HB := Aside0.mk Q_HB
         lf564_
         have HO145 := Aside0.mk (Q_HO145 (hon 20 (by kernel_rfl)))
         refine value_ (w1 := w') (v := v144) (by rfl) rfl ?_ ?_
         ·go_simp
          (try simp only [i64_w])
          try rfl
         lf567_
        exact steps_nil
       rintro b a w54 hall ⟨v129, v132, v135, v138, v141, v144, m21_, ha, Q_HO_115002, Q_BK114, Q_HB, Q_HO130, Q_HO133, Q_HO136, Q_HO139, Q_HO142, Q_HO145, Q_X21_⟩
       clear BK114 HB HO_115002
       have hb1_ := hall 1 (by kernel_rfl)
       have hb2_ := hall 2 (by kernel_rfl)
       have hb3_ := hall 3 (by kernel_rfl)
       have hb5_ := hall 5 (by kernel_rfl)
       have hb6_ := hall 6 (by kernel_rfl)
       have hb7_ := hall 7 (by kernel_rfl)
       have hb8_ := hall 8 (by kernel_rfl)
       have hb9_ := hall 9 (by kernel_rfl)
       have hb11_ := hall 11 (by kernel_rfl)
       have hb12_ := hall 12 (by kernel_rfl)
       have hb14_ := hall 14 (by kernel_rfl)
       have hb15_ := hall 15 (by kernel_rfl)
       have hb17_ := hall 17 (by kernel_rfl)
       have hb18_ := hall 18 (by kernel_rfl)
       have hb19_ := hall 19 (by kernel_rfl)
       have hb20_ := hall 20 (by kernel_rfl)
       have hb21_ := hall 21 (by kernel_rfl)
       subst ha
       obtain rfl := Q_X21_ hb21_
       lf568_
       have HO_115002 := Aside0.mk Q_HO_115002
       clear Q_HO_115002
       have BK114 := Aside0.mk Q_BK114
       clear Q_BK114
       have HB := Aside0.mk Q_HB
       clear Q_HB
       clear Q_HO130
       clear Q_HO133
       clear Q_HO136
       clear Q_HO139
       have HO142 := Aside0.mk (Q_HO142 hb19_)
       clear Q_HO142
       have HO145 := Aside0.mk (Q_HO145 hb20_)
       clear Q_HO145
       clear hall hb1_ hb2_ hb3_ hb5_ hb6_ hb7_ hb8_ hb9_ hb11_ hb12_ hb14_ hb15_ hb17_ hb18_ hb19_ hb20_ hb21_
       have hcz55_0 : w54.cell? ⟨gb114, 0, none⟩ = some (.int .i64 a0_0) := (blk_cell BK114.out 0).trans rfl
       have hcz55_1 : w54.cell? ⟨gb114, 1, none⟩ = some (.int .i64 a0_1) := (blk_cell BK114.out 1).trans rfl
       have hcz55_2 : w54.cell? ⟨gb114, 2, none⟩ = some (.slice A0_2 l0_2.length c0_2) := (blk_cell BK114.out 2).trans rfl
       have hcz55_3 : w54.cell? ⟨gb114, 3, none⟩ = some (.slice A0_3 l0_3.length c0_3) := (blk_cell BK114.out 3).trans rfl
       have hcz55_4 : w54.cell? ⟨gb114, 4, none⟩ = some (.slice A0_4 l0_4.length c0_4) := (blk_cell BK114.out 4).trans rfl
       have hcz55_5 : w54.cell? ⟨gb114, 5, none⟩ = some (.int .i64 a0_5) := (blk_cell BK114.out 5).trans rfl
       have hcz55_6 : w54.cell? ⟨gb114, 6, none⟩ = some (.int .i64 a0_6) := (blk_cell BK114.out 6).trans rfl
       have hcz55_7 : w54.cell? ⟨gb114, 7, none⟩ = some (.int .i64 a0_7) := (blk_cell BK114.out 7).trans rfl
       have hfz55_0 := blk_frozen BK114.out 0
       have hfz55_1 := blk_frozen BK114.out 1
       have hfz55_2 := blk_frozen BK114.out 2
       have hfz55_3 := blk_frozen BK114.out 3
       have hfz55_4 := blk_frozen BK114.out 4
       have hfz55_5 := blk_frozen BK114.out 5
       have hfz55_6 := blk_frozen BK114.out 6
       have hfz55_7 := blk_frozen BK114.out 7
       obtain ⟨Ao56, co56, eo56⟩ := Kd.R_slice HO145.out
       subst eo56
       try go_wp2_with (first | ((with_reducible refine gate_callee (f := 23) rfl ?_); refine goesL_ (some 66) rfl rfl Tryd.func23 (by kernel_rfl) rfl #[.slice Ao56 t143.length co56, .slice A0_4 l0_4.length c0_4] rfl (pf52_) ?_; (with_reducible refine (varint_Give.calls kj2 _ _ t143 _ _ l0_4 t146 _ ?side1 ?side2 ?side3 ?side4 ?sideT A35.out).mono ?_); (case sideT => repeat (first | exact TB.below HT.out (by qb1_ GE114) | exact HT.out | exact TB.below HT.out HB.out | exact TB.below HT.out HBW.out | (with_reducible refine TB.alloc ?_ _) | (with_reducible refine TB.drewN ?_ _) | (with_reducible refine TB.drew ?_))); (case side1 => repeat (first | exact (Kd.R_reads' HO145.out).2.2 | (with_reducible refine Kd.C_alloc ?_ _) | (with_reducible refine Kd.C_drewN ?_ _) | (with_reducible refine Kd.C_drew ?_))); (case side2 => exact (Kd.R_reads' HO145.out).2.1); (case side3 => repeat (first | exact (Kd.C_below HR0_4.out HB.out) | exact HR0_4.out | (with_reducible refine Kd.C_alloc ?_ _) | (with_reducible refine Kd.C_drewN ?_ _) | (with_reducible refine Kd.C_drew ?_))); (case side4 => exact HC0_4.out); rintro e w57 ⟨v147, rfl, ho0, hb⟩; refine ⟨_, rfl, ?_⟩; have n0_ := Aside0.mk (Kd.V_elder' (by qV_; exact HO_115002.out) (Kd.R_base ho0) hb); have n1_ := Aside0.mk (Kd.N_elder' (by qN_; exact HO142.out) (Kd.R_base ho0) hb); have n2_ := Aside0.mk (Kd.R_elder' (by qR_; exact HO145.out) (Kd.R_base ho0) hb); have n3_ := Aside0.mk (Kd.R_lower (Kd.R_new' (Kd.R_newM (M := fun k_ => (w.heap.size ≤ k_)) ho0 (below_size (by qb1_ GE114)) (fun k_ h_ => h_)) (Kd.R_lt (by qR_; exact HO145.out))) (below_size (by qb1_ GE114))); have n4_ := Aside0.mk (blk_below (g := gb114) (o := (of50_)) (by qk_; exact BK114.out) hb); have n5_ := Aside0.mk (below_step (by qb1_ GE114) hb); clear HO_115002; clear HO142; clear HO145; clear BK114; clear HB; have HO_115002 := n0_; have HO142 := n1_; have HO145 := n2_; have HO148 := n3_; have BK114 := n4_; have HB := n5_; clear n0_ n1_ n2_ n3_ n4_ n5_; (try clear hb); (try clear hb2); (try clear hk); (try clear hi); (try clear ho0)))
       lf51_
       have n1_ := Aside0.mk (Kd.N_drew HO142.out)
       have n2_ := Aside0.mk (Kd.R_drew HO145.out)
       have n3_ := Aside0.mk (Kd.R_drew HO148.out)
       have n4_ := Aside0.mk (blk_drew BK114.out)
       have n5_ := Aside0.mk (below_drew1 HB.out)
       clear HO_115002
       clear HO142
       clear HO145
       clear HO148
       clear BK114
       clear HB
       have HO_115002 := n0_
       have HO142 := n1_
       have HO145 := n2_
       have HO148 := n3_
       have BK114 := n4_
       have HB := n5_
       clear n0_ n1_ n2_ n3_ n4_ n5_
       obtain ⟨Ao59, co59, eo59⟩ := Kd.R_slice HO148.out
       (first | subst eo59 | (injection eo59 with f1_ f2_ f3_; have f4_ := f1_.symm; have f5_ := f3_.symm; clear f1_ f2_ f3_; subst f4_; subst f5_))
       lf569_
       generalize w57.drew = w58 at HO_115002 HO142 HO145 HO148 BK114 HB hHeld ⊢
       lf570_
       rotate_left
       ·intro w'
        go_simp
        with_reducible rfl
       rotate_left
       ·qp_
        rfl
       lf571_
       rotate_left
       ·intro w'
        go_simp
        with_reducible rfl
       rotate_left
       ·qp_
        rfl
       lf572_
       rotate_left
       ·intro w'
        go_simp
        with_reducible rfl
       rotate_left
       ·qp_
        rfl
       lf573_
       rotate_left
       ·intro w'
        go_simp
        with_reducible rfl
       rotate_left
       ·qp_
        rfl
       lf574_
       rotate_left
       ·intro w'
        go_simp
        with_reducible rfl
       rotate_left
       ·qp_
        rfl
       lf575_
       rotate_left
       ·lf576_
        go_simp
        with_reducible rfl
       rotate_left
       ·qp_
        rfl
       lf577_
       rotate_left
       ·intro w'
        go_simp
        with_reducible rfl
       rotate_left
       ·qp_
        rfl
       lf578_
       rotate_left
       ·lf576_
        go_simp
        with_reducible rfl
       rotate_left
       ·qp_
        rfl
       lf579_
       rotate_left
       ·lf576_
        go_simp
        with_reducible rfl
       rotate_left
       ·qp_
        rfl
       lf580_
       refine goes_ Tryd.func24 (by kernel_rfl) rfl #[.slice Ao59 t146.length co59, .int .i64 (wrap64 (a0_7 + a1))] (by rfl) rfl rfl (pf52_) ?_
       with_reducible refine (varint_Append.calls kj2 _ _ t146 (wrap64 (a0_7 + a1)) t149 _ ?side1 ?side2 ?sideT A36.out).mono ?_
       lf581_
       (case side1 => repeat (first | exact (Kd.R_reads' HO148.out).2.2 | (with_reducible refine Kd.C_alloc ?_ _) | (with_reducible refine Kd.C_drewN ?_ _) | (with_reducible refine Kd.C_drew ?_)))
       (case side2 => exact (Kd.R_reads' HO148.out).2.1)
       rintro e w60 ⟨v150, rfl, ho0, hb⟩
       refine ⟨_, rfl, ?_⟩
       lf515_
       lf566_
       lf582_
       have n3_ := Aside0.mk (Kd.R_elder' (by qR_; exact HO148.out) (Kd.R_base ho0) hb)
       have n4_ := Aside0.mk (Kd.R_lower (Kd.R_new' (Kd.R_new' (Kd.R_newM (M := fun k_ => (w.heap.size ≤ k_)) ho0 (below_size (by qb1_ GE114)) (fun k_ h_ => h_)) (Kd.R_lt (by qR_; exact HO145.out))) (Kd.R_lt (by qR_; exact HO148.out))) (below_size (by qb1_ GE114)))
       have n5_ := Aside0.mk (blk_below (g := gb114) (o := (of50_)) (by qk_; exact BK114.out) hb)
       have n6_ := Aside0.mk (below_step (by qb1_ GE114) hb)
       clear HO_115002
       clear HO142
       clear HO145
       clear HO148
       clear BK114
       clear HB
       have HO_115002 := n0_
       have HO142 := n1_
       have HO145 := n2_
       have HO148 := n3_
       have HO151 := n4_
       have BK114 := n5_
       have HB := n6_
       clear n0_ n1_ n2_ n3_ n4_ n5_ n6_
       (try clear hb)
       (try clear hb2)
       (try clear hk)
       (try clear hi)
       (try clear ho0)
       lf583_
       clear hK K
       refine norm_ (a' := ?_) ?_ ?_
       rotate_left
       ·show Act.put _ (some 72) _ = _
        qp_
        rfl
       lf584_
       refine goes_ Tryd.func21 (by kernel_rfl) rfl #[.int .i64 a0_6, .int .i64 a0_7] (by rfl) rfl rfl (pf52_) ?_
       with_reducible refine (header_big.calls kj2 a0_6 a0_7 t152 _ A37.out).mono ?_
       rintro e w61 ⟨v153, rfl, ho0, hb⟩
       refine ⟨_, rfl, ?_⟩
       lf515_
       lf566_
       lf582_
       have n3_ := Aside0.mk (Kd.R_elder' (by qR_; exact HO148.out) (Kd.R_base ho0) hb)
       have n4_ := Aside0.mk (Kd.R_elder' (by qR_; exact HO151.out) (Kd.R_base ho0) hb)
       have n5_ := Aside0.mk (Kd.R_lower (Kd.R_new' (Kd.R_new' (Kd.R_new' (Kd.R_newM (M := fun k_ => (w.heap.size ≤ k_)) ho0 (below_size (by qb1_ GE114)) (fun k_ h_ => h_)) (Kd.R_lt (by qR_; exact HO145.out))) (Kd.R_lt (by qR_; exact HO148.out))) (Kd.R_lt (by qR_; exact HO151.out))) (below_size (by qb1_ GE114)))
       have n6_ := Aside0.mk (blk_below (g := gb114) (o := (of50_)) (by qk_; exact BK114.out) hb)
       have n7_ := Aside0.mk (below_step (by qb1_ GE114) hb)
       clear HO_115002
       clear HO142
       clear HO145
       clear HO148
       clear HO151
       clear BK114
       clear HB
       have HO_115002 := n0_
       have HO142 := n1_
       have HO145 := n2_
       have HO148 := n3_
       have HO151 := n4_
       have HO154 := n5_
       have BK114 := n6_
       have HB := n7_
       clear n0_ n1_ n2_ n3_ n4_ n5_ n6_ n7_
       (try clear hb)
       (try clear hb2)
       (try clear hk)
       (try clear hi)
       (try clear ho0)
       obtain ⟨Ao63, co63, eo63⟩ := Kd.R_slice HO154.out
       (first | subst eo63 | (injection eo63 with f1_ f2_ f3_; have f4_ := f1_.symm; have f5_ := f3_.symm; clear f1_ f2_ f3_; subst f4_; subst f5_))
       lf583_
       clear hK K
       refine norm_ (a' := ?_) ?_ ?_
       rotate_left
       ·show Act.put _ (some 77) _ = _
        qp_
        rfl
       lf585_
       refine Kd.R_append_rows_step (Kd.int .u8) (w0 := w) w.heap.size (by rfl) (.tmp 72) (.tmp 77) 22 5 (.int .u8 0) 1 rfl Tryd.underlying22 info5 rfl (by decide) (by omega) v150 t149 t152 _ _ _ (fun k_ => (w.heap.size ≤ k_) ∧ some k_ ≠ (.slice Ao56 t143.length co56 : Value).ownBlock ∧ some k_ ≠ (.slice Ao59 t146.length co59 : Value).ownBlock ∧ some k_ ≠ (.slice Ao63 t152.length co63 : Value).ownBlock) (fun _ => False) rfl rfl ?aO ?aR (fun _ _ h => h) (fun _ h => h.elim) ?aF ?aB ?aS ?aL ?_
       (case aR => repeat (first | exact (Kd.R_reads' HO154.out).2.2 | (with_reducible refine Kd.C_alloc ?_ _) | (with_reducible refine Kd.C_drewN ?_ _) | (with_reducible refine Kd.C_drew ?_)))
       (case aB => exact (by qb1_ GE114))
       (case aF => exact (fun k_ hk => ⟨(Nat.le_trans (below_size (by qb1_ GE114)) hk), Kd.fresh' (Kd.R_lt (by qR_; exact HO145.out)) k_ hk, Kd.fresh' (Kd.R_lt (by qR_; exact HO148.out)) k_ hk, Kd.fresh' (Kd.R_lt (by qR_; exact HO154.out)) k_ hk⟩))
       (case aO => exact (by qR_; exact Kd.R_mono HO151.out (fun _ hk => (by first | exact ⟨hk.1.1.1.1, ⟨hk.1.1.2, ⟨hk.1.2, hk.2⟩⟩⟩ | exact hk | grind))))
       (case aS => exact (below_size (by qb1_ GE114)))
       (case aL => have := LMc38.out; omega)
       intro v156 w62 ho hb hg hat
       rw [← Ny155.out] at ho
       first | have n0_ := Aside0.mk (Kd.V_afterv (ok := (fun k_ => (P0_2_ k_ ∨ w.heap.size ≤ k_) ∧ some k_ ≠ (v141 : Value).ownBlock ∧ some k_ ≠ (.slice Ao56 t143.length co56 : Value).ownBlock ∧ some k_ ≠ (.slice Ao59 t146.length co59 : Value).ownBlock ∧ some k_ ≠ (.slice Ao63 t152.length co63 : Value).ownBlock ∧ k_ ≠ gb114)) (by qV_; exact Kd.V_mono HO_115002.out (fun _ hk => (by first | exact ⟨⟨hk.1.1.1.1, ⟨hk.1.1.1.2.1, ⟨hk.1.1.1.2.2.1, ⟨hk.1.1.2, ⟨hk.2, hk.1.1.1.2.2.2⟩⟩⟩⟩⟩, hk.1.2⟩ | exact hk | grind))) hg hat) | have n0_ := True.intro
       have n1_ := Aside0.mk (blk_grown (g := gb114) (o := (of50_)) (by qk_; exact BK114.out) hg (Kd.R_ne HO151.out BK114.out (by decide)))
       first | have n2_ := Aside0.mk (Kd.N_afterv (ok := (fun k_ => (P0_2_ k_ ∨ w.heap.size ≤ k_) ∧ some k_ ≠ (.slice Ao56 t143.length co56 : Value).ownBlock ∧ some k_ ≠ (.slice Ao59 t146.length co59 : Value).ownBlock ∧ some k_ ≠ (.slice Ao63 t152.length co63 : Value).ownBlock ∧ k_ ≠ gb114)) (by qN_; exact Kd.N_mono HO142.out (fun _ hk => (by first | exact ⟨⟨hk.1.1.1.1, ⟨hk.1.1.1.2.1, ⟨hk.1.1.2, ⟨hk.2, hk.1.1.1.2.2⟩⟩⟩⟩, hk.1.2⟩ | exact hk | grind))) hg hat) | have n2_ := True.intro
       first | have n3_ := Aside0.mk (Kd.R_after (ok := (fun k_ => (w.heap.size ≤ k_) ∧ some k_ ≠ (.slice Ao59 t146.length co59 : Value).ownBlock ∧ some k_ ≠ (.slice Ao63 t152.length co63 : Value).ownBlock)) (by qR_; exact Kd.R_mono HO145.out (fun _ hk => (by first | exact ⟨⟨hk.1.1.1, ⟨hk.1.1.2, hk.2⟩⟩, hk.1.2⟩ | exact hk | grind))) hg hat) | have n3_ := True.intro
       first | have n4_ := Aside0.mk (Kd.R_after (ok := (fun k_ => (w.heap.size ≤ k_) ∧ some k_ ≠ (.slice Ao56 t143.length co56 : Value).ownBlock ∧ some k_ ≠ (.slice Ao63 t152.length co63 : Value).ownBlock)) (by qR_; exact Kd.R_mono HO148.out (fun _ hk => (by first | exact ⟨⟨hk.1.1.1.1, ⟨hk.1.1.2, hk.2⟩⟩, hk.1.2⟩ | exact hk | grind))) hg hat) | have n4_ := True.intro
       first | have n5_ := Aside0.mk (Kd.R_after (ok := (fun k_ => (w.heap.size ≤ k_) ∧ some k_ ≠ (.slice Ao56 t143.length co56 : Value).ownBlock ∧ some k_ ≠ (.slice Ao59 t146.length co59 : Value).ownBlock)) (by qR_; exact Kd.R_mono HO154.out (fun _ hk => (by first | exact ⟨⟨hk.1.1.1.1, ⟨hk.1.1.2, hk.1.2⟩⟩, hk.2⟩ | exact hk | grind))) hg hat) | have n5_ := True.intro
       have n6_ := Aside0.mk (hb)
       have n7_ := Aside0.mk (ho)
       clear HO_115002
       clear BK114
       clear HO142
       clear HO145
       clear HO148
       clear HO154
       clear HB
       clear HO151
       have HO_115002 := n0_
       have BK114 := n1_
       have HO142 := n2_
       have HO145 := n3_
       have HO148 := n4_
       have HO154 := n5_
       have HB := n6_
       have HO157 := n7_
       clear n0_ n1_ n2_ n3_ n4_ n5_ n6_ n7_
       clear ho hb hg hat
       lf583_
       clear hK K
       refine norm_ (a' := ?_) ?_ ?_
       rotate_left
       ·show Act.put _ (some 78) _ = _
        qp_
        rfl
       lf586_
       rotate_left
       ·intro w'
        go_simp
        with_reducible rfl
       rotate_left
       ·qp_
        rfl
       refine done_ (done_of HT_.out (by kernel_rfl)) ?_
       try go_wp2
       go_ret
       exact ⟨_, by first | rfl | (simp [errW_none, errW_some] <;> rfl) | (simp [*, errW_none, errW_some] <;> rfl), by qR_; exact Kd.R_mono HO157.out (fun _ hk => (pf56_)), by qb1_ GE114⟩
      ·rw [if_neg c38] at H
       exact absurd H (by simp)
     ·rw [if_neg c34] at H
      have c34b0 : (a0_0 == 0) = false := beq_eq_false_iff_ne.mpr c34
      have c34b1 : (a0_0 != 0) = true := bne_iff_ne.mpr c34
      lf50_
      obtain ⟨t158, A640, H⟩ := H
      replace H : ((header_big.f kj2 a0_6 a0_7).bind fun t161 => (pf58_)) = some r := H
      have A64 := Aside0.mk A640
      clear A640
      lf50_
      obtain ⟨t161, A650, H⟩ := H
      replace H : (pf58_) = some r := H
      have A65 := Aside0.mk A650
      clear A650
      by_cases c66 : t158.length + t161.length < 140737488355328
      ·rw [if_pos c66] at H
       have LMc66 := Aside0.mk c66
       clear c66
       obtain ⟨y164, hy164⟩ : ∃ y_ : List Int, y_ = (t158 ++ t161) := ⟨_, rfl⟩
       replace H : (some y164) = some r := by first | (rw [hy164]; with_reducible exact H) | (have H2_ := (Option.bind_some _ _).symm.trans H; rw [hy164]; with_reducible exact H2_) | (have H2_ := (Option.bind_some _ _).symm.trans H; with_reducible exact H2_) | with_reducible exact H | (rw [hy164]; exact H) | exact H
       have Ny164 := Aside0.mk hy164
       clear hy164
       obtain rfl := Option.some.inj H
       have hcz67_0 : wc.cell? ⟨gb114, 0, none⟩ = some (.int .i64 a0_0) := (blk_cell BK114.out 0).trans rfl
       have hcz67_1 : wc.cell? ⟨gb114, 1, none⟩ = some (.int .i64 a0_1) := (blk_cell BK114.out 1).trans rfl
       have hcz67_2 : wc.cell? ⟨gb114, 2, none⟩ = some (.slice A0_2 l0_2.length c0_2) := (blk_cell BK114.out 2).trans rfl
       have hcz67_3 : wc.cell? ⟨gb114, 3, none⟩ = some (.slice A0_3 l0_3.length c0_3) := (blk_cell BK114.out 3).trans rfl
       have hcz67_4 : wc.cell? ⟨gb114, 4, none⟩ = some (.slice A0_4 l0_4.length c0_4) := (blk_cell BK114.out 4).trans rfl
       have hcz67_5 : wc.cell? ⟨gb114, 5, none⟩ = some (.int .i64 a0_5) := (blk_cell BK114.out 5).trans rfl
       have hcz67_6 : wc.cell? ⟨gb114, 6, none⟩ = some (.int .i64 a0_6) := (blk_cell BK114.out 6).trans rfl
       have hcz67_7 : wc.cell? ⟨gb114, 7, none⟩ = some (.int .i64 a0_7) := (blk_cell BK114.out 7).trans rfl
       have hfz67_0 := blk_frozen BK114.out 0
       have hfz67_1 := blk_frozen BK114.out 1
       have hfz67_2 := blk_frozen BK114.out 2
       have hfz67_3 := blk_frozen BK114.out 3
       have hfz67_4 := blk_frozen BK114.out 4
       have hfz67_5 := blk_frozen BK114.out 5
       have hfz67_6 := blk_frozen BK114.out 6
       have hfz67_7 := blk_frozen BK114.out 7
       try go_wp2
       lf51_
       have n1_ := Aside0.mk (blk_drew BK114.out)
       have n2_ := Aside0.mk (below_drew1 HB.out)
       clear HO_115002
       clear BK114
       clear HB
       have HO_115002 := n0_
       have BK114 := n1_
       have HB := n2_
       clear n0_ n1_ n2_
       lf520_
       generalize wc.drew = w68 at HO_115002 BK114 HB hHeld ⊢
       lf521_
       rotate_left
       ·intro w'
        go_simp
        with_reducible rfl
       rotate_left
       ·qp_
        rfl
       lf522_
       rotate_left
       ·intro w'
        go_simp
        with_reducible rfl
       rotate_left
       ·qp_
        rfl
       lf523_
       rotate_left
       ·intro w'
        go_simp
        with_reducible rfl
       rotate_left
       ·qp_
        rfl
       lf524_
       rotate_left
       ·intro w'
        go_simp
        with_reducible rfl
       rotate_left
       ·qp_
        rfl
       lf525_
       rotate_left
       ·intro w'
        go_simp
        with_reducible rfl
       rotate_left
       ·qp_
        rfl
       lf526_
       ·lf527_
       ·skip
        clear BK114 HB HO_115002
        refine steps_cons ?_ ?_
        ·lf528_
         refine ⟨_, rfl, fun K hK => ?_⟩
         have e39 : a.tmps[39]? = some (.pointer (some ⟨gb114, 0, none⟩)) := by rw [ha]; exact (putSel_off rfl).trans rfl
         replace ha := Aside0.mk ha
         have HO_115002 := Aside0.mk Q_HO_115002
         have BK114 := Aside0.mk Q_BK114
         have HB := Aside0.mk Q_HB
         lf53_
         lf54_
         lf55_
         lf56_
         lf57_
         lf58_
         lf59_
         lf510_
         refine value_ (w1 := w') (v := .int .i64 a0_0) (by rfl) rfl ?_ ?_
         ·go_simp
          (try simp only [i64_w])
          try rfl
         lf529_
        refine steps_cons ?_ ?_
        ·lf528_
         refine ⟨_, rfl, fun K hK => ?_⟩
         lf530_
         replace ha := Aside0.mk ha
         have HO_115002 := Aside0.mk Q_HO_115002
         have BK114 := Aside0.mk Q_BK114
         have HB := Aside0.mk Q_HB
         refine value_ (w1 := w') (v := .int .i64 (wrap64 (16 * a0_0))) (by rfl) rfl ?_ ?_
         ·go_simp
          (try simp only [i64_w])
          try rfl
         lf531_
        refine steps_cons ?_ ?_
        ·lf528_
         refine ⟨_, rfl, fun K hK => ?_⟩
         lf532_
         replace ha := Aside0.mk ha
         have HO_115002 := Aside0.mk Q_HO_115002
         have BK114 := Aside0.mk Q_BK114
         have HB := Aside0.mk Q_HB
         refine value_ (w1 := w') (v := .int .i64 (wrap64 (192 + (wrap64 (16 * a0_0))))) (by rfl) rfl ?_ ?_
         ·go_simp
          (try simp only [i64_w])
          try rfl
         lf533_
        refine steps_cons ?_ ?_
        ·lf528_
         refine ⟨_, rfl, fun K hK => ?_⟩
         have e43 : a.tmps[43]? = some (.pointer (some ⟨gb114, 7, none⟩)) := by rw [ha]; exact (putSel_off rfl).trans rfl
         replace ha := Aside0.mk ha
         have HO_115002 := Aside0.mk Q_HO_115002
         have BK114 := Aside0.mk Q_BK114
         have HB := Aside0.mk Q_HB
         lf53_
         lf54_
         lf55_
         lf56_
         lf57_
         lf58_
         lf59_
         lf510_
         lf511_
         ·go_simp
          (try simp only [i64_w])
          try rfl
         lf534_
        refine steps_cons ?_ ?_
        ·lf528_
         refine ⟨_, rfl, fun K hK => ?_⟩
         lf535_
         lf536_
         replace ha := Aside0.mk ha
         have HO_115002 := Aside0.mk Q_HO_115002
         have BK114 := Aside0.mk Q_BK114
         have HB := Aside0.mk Q_HB
         refine value_ (w1 := w') (v := .int .i64 (wrap64 ((wrap64 (192 + (wrap64 (16 * a0_0)))) + a0_7))) (by rfl) rfl ?_ ?_
         ·go_simp
          (try simp only [i64_w])
          try rfl
         lf537_
        refine steps_cons ?_ ?_
        ·lf528_
         refine ⟨_, rfl, fun K hK => ?_⟩
         lf538_
         replace ha := Aside0.mk ha
         have HO_115002 := Aside0.mk Q_HO_115002
         have BK114 := Aside0.mk Q_BK114
         have HB := Aside0.mk Q_HB
         refine value_ (w1 := w') (v := .int .i64 (wrap64 ((wrap64 ((wrap64 (192 + (wrap64 (16 * a0_0)))) + a0_7)) - 1))) (by rfl) rfl ?_ ?_
         ·go_simp
          (try simp only [i64_w])
          try rfl
         lf539_
        refine steps_cons ?_ ?_
        ·lf528_
         refine ⟨_, rfl, fun K hK => ?_⟩
         lf540_
         replace ha := Aside0.mk ha
         have HO_115002 := Aside0.mk Q_HO_115002
         have BK114 := Aside0.mk Q_BK114
         have HB := Aside0.mk Q_HB
         refine value_ (w1 := w') (v := .int .u8 ((wrap64 ((wrap64 ((wrap64 (192 + (wrap64 (16 * a0_0)))) + a0_7)) - 1)) % 256)) (by rfl) rfl ?_ ?_
         ·go_simp
          (try simp only [i64_w])
          try rfl
         lf541_
        refine steps_cons ?_ ?_
        ·lf528_
         refine ⟨_, rfl, fun K hK => ?_⟩
         lf542_
         replace ha := Aside0.mk ha
         have HO_115002 := Aside0.mk Q_HO_115002
         have BK114 := Aside0.mk Q_BK114
         have HB := Aside0.mk Q_HB
         lf543_
         intro v129 w69 ho70 hb hg_ hnew_
         clear hg_ hnew_
         (first | rw [← Ny128.out] at ho70 | (simp only [Int.reduceToNat] at ho70; rw [← Ny128.out] at ho70))
         have n0_ := Aside0.mk (Kd.V_elder' (by qV_; exact HO_115002.out) (Kd.R_base ho70) hb)
         have n1_ := Aside0.mk (Kd.R_lower (Kd.R_newM (M := fun k_ => (w.heap.size ≤ k_)) ho70 (below_size (by qb1_ GE114)) (fun k_ h_ => h_)) (below_size (by qb1_ GE114)))
         lf512_
         lf513_
         have z_HO133 := fun (h0_ : b 12 = true) (h1_ : b 19 = false) => (show Kd.R (Kd.int .u8) 5 w69 w.heap.size (fun k_ => (w.heap.size ≤ k_)) v132 t131 from by first | exact (Kd.R_elder' (by qR_; exact (Q_HO133 h0_ h1_)) (Kd.R_base ho70) hb) | exact Kd.R_mono (Kd.R_elder' (by qR_; exact (Q_HO133 h0_ h1_)) (Kd.R_base ho70) hb) (fun _ h_ => by first | trivial | exact h_ | exact h_.1))
         have z_HO136 := fun (h0_ : b 15 = true) (h1_ : b 19 = false) => (show Kd.R (Kd.int .u8) 5 w69 w.heap.size (fun k_ => (w.heap.size ≤ k_)) v135 t134 from by first | exact (Kd.R_elder' (by qR_; exact (Q_HO136 h0_ h1_)) (Kd.R_base ho70) hb) | exact Kd.R_mono (Kd.R_elder' (by qR_; exact (Q_HO136 h0_ h1_)) (Kd.R_base ho70) hb) (fun _ h_ => by first | trivial | exact h_ | exact h_.1))
         have z_HO139 := fun (h0_ : b 18 = true) (h1_ : b 19 = false) => (show Kd.R (Kd.int .u8) 5 w69 w.heap.size (fun k_ => (w.heap.size ≤ k_)) v138 t137 from by first | exact (Kd.R_elder' (by qR_; exact (Q_HO139 h0_ h1_)) (Kd.R_base ho70) hb) | exact Kd.R_mono (Kd.R_elder' (by qR_; exact (Q_HO139 h0_ h1_)) (Kd.R_base ho70) hb) (fun _ h_ => by first | trivial | exact h_ | exact h_.1))
         clear HO_115002
         clear BK114
         clear HB
         have HO_115002 := n0_
         have HO130 := n1_
         have BK114 := n2_
         have HB := n3_
         clear n0_ n1_ n2_ n3_
         clear hb ho70
         lf544_
        refine steps_cons ?_ ?_
        ·lf528_
         refine ⟨_, rfl, fun K hK => ?_⟩
         have e49 : a.tmps[49]? = some (.pointer (some ⟨gb114, 1, none⟩)) := by rw [ha]; exact (putSel_off rfl).trans rfl
         replace ha := Aside0.mk ha
         have HO_115002 := Aside0.mk Q_HO_115002
         have BK114 := Aside0.mk Q_BK114
         have HB := Aside0.mk Q_HB
         lf53_
         lf54_
         lf55_
         lf56_
         lf57_
         lf58_
         lf59_
         lf510_
         refine value_ (w1 := w') (v := .int .i64 a0_1) (by rfl) rfl ?_ ?_
         ·go_simp
          (try simp only [i64_w])
          try rfl
         lf545_
        refine steps_cons ?_ ?_
        ·lf528_
         refine ⟨_, rfl, fun K hK => ?_⟩
         lf546_
         replace ha := Aside0.mk ha
         have HO_115002 := Aside0.mk Q_HO_115002
         have BK114 := Aside0.mk Q_BK114
         have HB := Aside0.mk Q_HB
         lf547_
         with_reducible refine (header_big.calls kj2 a0_1 4 t131 _ A30.out).mono ?_
         rintro e w69 ⟨v132, rfl, ho0, hb⟩
         refine ⟨_, rfl, ?_⟩
         lf515_
         lf516_
         lf512_
         lf513_
         have z_HO130 := fun (h0_ : b 9 = true) (h1_ : b 19 = false) => (show Kd.R (Kd.int .u8) 5 w69 w.heap.size (fun k_ => (w.heap.size ≤ k_)) v129 y128 from by first | exact (Kd.R_elder' (by qR_; exact (Q_HO130 h0_ h1_)) (Kd.R_base ho0) hb) | exact Kd.R_mono (Kd.R_elder' (by qR_; exact (Q_HO130 h0_ h1_)) (Kd.R_base ho0) hb) (fun _ h_ => by first | trivial | exact h_ | exact h_.1))
         clear HO_115002
         clear BK114
         clear HB
         have HO_115002 := n0_
         have HO133 := n1_
         have BK114 := n2_
         have HB := n3_
         clear n0_ n1_ n2_ n3_
         (try clear hb)
         (try clear hb2)
         (try clear hk)
         (try clear hi)
         (try clear ho0)
         lf548_
        refine steps_cons ?_ ?_
        ·lf528_
         refine ⟨_, rfl, fun K hK => ?_⟩
         have e52 : a.tmps[52]? = some (.pointer (some ⟨gb114, 2, none⟩)) := by rw [ha]; exact (putSel_off rfl).trans rfl
         replace ha := Aside0.mk ha
         have HO_115002 := Aside0.mk Q_HO_115002
         have BK114 := Aside0.mk Q_BK114
         have HB := Aside0.mk Q_HB
         lf53_
         lf54_
         lf55_
         lf56_
         lf57_
         lf58_
         lf59_
         lf510_
         lf514_
         ·go_simp
          (try simp only [i64_w])
          try rfl
         lf549_
        refine steps_cons ?_ ?_
        ·lf528_
         refine ⟨_, rfl, fun K hK => ?_⟩
         lf550_
         replace ha := Aside0.mk ha
         have HO_115002 := Aside0.mk Q_HO_115002
         have BK114 := Aside0.mk Q_BK114
         have HB := Aside0.mk Q_HB
         lf551_
         lf552_
         with_reducible refine (header_named.calls _ _ l0_2 t134 _ ?side1 ?side2 A31.out).mono ?_
         lf553_
         (case side2 => exact (Kd.V_reads' HO_115002.out).2.1)
         rintro e w71 ⟨v135, rfl, ho0, hb⟩
         refine ⟨_, rfl, ?_⟩
         lf515_
         lf554_
         lf555_
         lf518_
         lf519_
         have z_HO130 := fun (h0_ : b 9 = true) (h1_ : b 19 = false) => (show Kd.R (Kd.int .u8) 5 w71 w.heap.size (fun k_ => (w.heap.size ≤ k_)) v129 y128 from by first | exact (Kd.R_elder' (by qR_; exact (Q_HO130 h0_ h1_)) (Kd.R_base ho0) hb) | exact Kd.R_mono (Kd.R_elder' (by qR_; exact (Q_HO130 h0_ h1_)) (Kd.R_base ho0) hb) (fun _ h_ => by first | trivial | exact h_ | exact h_.1))
         clear HO_115002
         clear HO133
         clear BK114
         clear HB
         have HO_115002 := n0_
         have HO133 := n1_
         have HO136 := n2_
         have BK114 := n3_
         have HB := n4_
         clear n0_ n1_ n2_ n3_ n4_
         (try clear hb)
         (try clear hb2)
         (try clear hk)
         (try clear hi)
         (try clear ho0)
         lf556_
        refine steps_cons ?_ ?_
        ·lf528_
         refine ⟨_, rfl, fun K hK => ?_⟩
         have e55 : a.tmps[55]? = some (.pointer (some ⟨gb114, 3, none⟩)) := by rw [ha]; exact (putSel_off rfl).trans rfl
         replace ha := Aside0.mk ha
         have HO_115002 := Aside0.mk Q_HO_115002
         have BK114 := Aside0.mk Q_BK114
         have HB := Aside0.mk Q_HB
         lf53_
         lf54_
         lf55_
         lf56_
         lf57_
         lf58_
         lf59_
         lf510_
         refine value_ (w1 := w') (v := .slice A0_3 l0_3.length c0_3) (by rfl) rfl ?_ ?_
         ·go_simp
          (try simp only [i64_w])
          try rfl
         lf557_
        refine steps_cons ?_ ?_
        ·lf528_
         refine ⟨_, rfl, fun K hK => ?_⟩
         lf558_
         replace ha := Aside0.mk ha
         have HO_115002 := Aside0.mk Q_HO_115002
         have BK114 := Aside0.mk Q_BK114
         have HB := Aside0.mk Q_HB
         lf551_
         have HO136 := Aside0.mk (Q_HO136 (hon 15 (by kernel_rfl)) (hoff 19 (by kernel_rfl)))
         lf559_
         with_reducible refine (header_named.calls _ _ l0_3 t137 _ ?side1 ?side2 A32.out).mono ?_
         lf560_
         (case side2 => exact HC0_3.out)
         rintro e w72 ⟨v138, rfl, ho0, hb⟩
         refine ⟨_, rfl, ?_⟩
         lf515_
         lf554_
         have n2_ := Aside0.mk (Kd.R_elder' (by qR_; exact HO136.out) (Kd.R_base ho0) hb)
         lf561_
         lf562_
         have n5_ := Aside0.mk (below_step (by qb1_ GE114) hb)
         have z_HO130 := fun (h0_ : b 9 = true) (h1_ : b 19 = false) => (show Kd.R (Kd.int .u8) 5 w72 w.heap.size (fun k_ => (w.heap.size ≤ k_)) v129 y128 from by first | exact (Kd.R_elder' (by qR_; exact (Q_HO130 h0_ h1_)) (Kd.R_base ho0) hb) | exact Kd.R_mono (Kd.R_elder' (by qR_; exact (Q_HO130 h0_ h1_)) (Kd.R_base ho0) hb) (fun _ h_ => by first | trivial | exact h_ | exact h_.1))
         clear HO_115002
         clear HO133
         clear HO136
         clear BK114
         clear HB
         have HO_115002 := n0_
         have HO133 := n1_
         have HO136 := n2_
         have HO139 := n3_
         have BK114 := n4_
         have HB := n5_
         clear n0_ n1_ n2_ n3_ n4_ n5_
         (try clear hb)
         (try clear hb2)
         (try clear hk)
         (try clear hi)
         (try clear ho0)
         lf563_
        refine steps_cons ?_ ?_
        ·lf528_
         refine ⟨_, rfl, fun K hK => ?_⟩
         have e48 : a.tmps[48]? = some (v129) := by rw [ha]; exact putSel_on (e := (9, 48, v129)) 7 rfl rfl (hon 9 (by kernel_rfl)) rfl
         have e51 : a.tmps[51]? = some (v132) := by rw [ha]; exact putSel_on (e := (12, 51, v132)) 9 rfl rfl (hon 12 (by kernel_rfl)) rfl
         have e54 : a.tmps[54]? = some (v135) := by rw [ha]; exact putSel_on (e := (15, 54, v135)) 11 rfl rfl (hon 15 (by kernel_rfl)) rfl
         have e57 : a.tmps[57]? = some (v138) := by rw [ha]; exact putSel_on (e := (18, 57, v138)) 13 rfl rfl (hon 18 (by kernel_rfl)) rfl
         replace ha := Aside0.mk ha
         have HO_115002 := Aside0.mk Q_HO_115002
         have BK114 := Aside0.mk Q_BK114
         have HB := Aside0.mk Q_HB
         have HO130 := Aside0.mk (Q_HO130 (hon 9 (by kernel_rfl)) hb_)
         have HO133 := Aside0.mk (Q_HO133 (hon 12 (by kernel_rfl)) hb_)
         have HO136 := Aside0.mk (Q_HO136 (hon 15 (by kernel_rfl)) hb_)
         have HO139 := Aside0.mk (Q_HO139 (hon 18 (by kernel_rfl)) hb_)
         obtain ⟨Ao75, co75, eo75⟩ := Kd.R_slice HO130.out
         (first | subst eo75 | (injection eo75 with f1_ f2_ f3_; have f4_ := f1_.symm; have f5_ := f3_.symm; clear f1_ f2_ f3_; subst f4_; subst f5_))
         obtain ⟨Ao76, co76, eo76⟩ := Kd.R_slice HO133.out
         (first | subst eo76 | (injection eo76 with f1_ f2_ f3_; have f4_ := f1_.symm; have f5_ := f3_.symm; clear f1_ f2_ f3_; subst f4_; subst f5_))
         obtain ⟨Ao77, co77, eo77⟩ := Kd.R_slice HO136.out
         (first | subst eo77 | (injection eo77 with f1_ f2_ f3_; have f4_ := f1_.symm; have f5_ := f3_.symm; clear f1_ f2_ f3_; subst f4_; subst f5_))
         obtain ⟨Ao78, co78, eo78⟩ := Kd.R_slice HO139.out
         (first | subst eo78 | (injection eo78 with f1_ f2_ f3_; have f4_ := f1_.symm; have f5_ := f3_.symm; clear f1_ f2_ f3_; subst f4_; subst f5_))
         refine Kd.N_lit_step (Kd.slice 5 (Kd.int .u8)) _ 22 ?hg (N' := 58) ?hd (xs := ([y128, t131, t134, t137] : List (List Int))) (inner := [.slice Ao75 y128.length co75, .slice Ao76 t131.length co76, .slice Ao77 t134.length co77, .slice Ao78 t137.length co78]) (ok := (fun k_ => (P0_2_ k_ ∨ w.heap.size ≤ k_) ∧ k_ ≠ gb114)) (okp := (fun k_ => (P0_2_ k_ ∨ w.heap.size ≤ k_) ∧ k_ ≠ gb114)) ?hr ?hp (fun _ hk => hk) ((show ∀ k_, w'.heap.size ≤ k_ → (fun k_ => (P0_2_ k_ ∨ w.heap.size ≤ k_) ∧ k_ ≠ gb114) k_ from fun k_ hk => ⟨(.inr (Nat.le_trans (below_size (by qb1_ GE114)) hk)), Kd.freshB (g := gb114) (o := (of50_)) (by qk_; exact BK114.out) k_ hk⟩) _ (Nat.le_refl _)) (Below.refl _ _) (Nat.le_refl _) (by simp) ?_; (case hd => rfl); (case hg => rfl); (case hr => first | (go_simp; done) | (go_simp; rfl)); (case hp => exact (Reps.one (show Kd.FK (Kd.slice 5 (Kd.int .u8)) _ _ y128 [.slice Ao75 y128.length co75] from (Kd.FK_slice_mk (Kd.R_reads' (Kd.R_mono (ok' := (fun k_ => (P0_2_ k_ ∨ w.heap.size ≤ k_) ∧ k_ ≠ gb114)) (Kd.R_types (HO130.out) BK114.out (by decide)) (fun k_ hk => (pf51_)))).2.1 (Kd.R_F (Kd.R_mono (ok' := (fun k_ => (P0_2_ k_ ∨ w.heap.size ≤ k_) ∧ k_ ≠ gb114)) (Kd.R_types (HO130.out) BK114.out (by decide)) (fun k_ hk => (pf51_)))))) (Reps.one (show Kd.FK (Kd.slice 5 (Kd.int .u8)) _ _ t131 [.slice Ao76 t131.length co76] from (Kd.FK_slice_mk (Kd.R_reads' (Kd.R_mono (ok' := (fun k_ => (P0_2_ k_ ∨ w.heap.size ≤ k_) ∧ k_ ≠ gb114)) (Kd.R_types (HO133.out) BK114.out (by decide)) (fun k_ hk => (pf51_)))).2.1 (Kd.R_F (Kd.R_mono (ok' := (fun k_ => (P0_2_ k_ ∨ w.heap.size ≤ k_) ∧ k_ ≠ gb114)) (Kd.R_types (HO133.out) BK114.out (by decide)) (fun k_ hk => (pf51_)))))) (Reps.one (show Kd.FK (Kd.slice 5 (Kd.int .u8)) _ _ t134 [.slice Ao77 t134.length co77] from (Kd.FK_slice_mk (Kd.R_reads' (Kd.R_mono (ok' := (fun k_ => (P0_2_ k_ ∨ w.heap.size ≤ k_) ∧ k_ ≠ gb114)) (Kd.R_types (HO136.out) BK114.out (by decide)) (fun k_ hk => (pf51_)))).2.1 (Kd.R_F (Kd.R_mono (ok' := (fun k_ => (P0_2_ k_ ∨ w.heap.size ≤ k_) ∧ k_ ≠ gb114)) (Kd.R_types (HO136.out) BK114.out (by decide)) (fun k_ hk => (pf51_)))))) (Reps.one (show Kd.FK (Kd.slice 5 (Kd.int .u8)) _ _ t137 [.slice Ao78 t137.length co78] from (Kd.FK_slice_mk (Kd.R_reads' (Kd.R_mono (ok' := (fun k_ => (P0_2_ k_ ∨ w.heap.size ≤ k_) ∧ k_ ≠ gb114)) (Kd.R_types (HO139.out) BK114.out (by decide)) (fun k_ hk => (pf51_)))).2.1 (Kd.R_F (Kd.R_mono (ok' := (fun k_ => (P0_2_ k_ ∨ w.heap.size ≤ k_) ∧ k_ ≠ gb114)) (Kd.R_types (HO139.out) BK114.out (by decide)) (fun k_ hk => (pf51_)))))) (Reps.none _ _))))))
         intro v141 w79 ho80 hb hg_ hnew_
         clear hg_ hnew_
         (first | rw [← Ny140.out] at ho80 | (simp only [Int.reduceToNat] at ho80; rw [← Ny140.out] at ho80))
         have n0_ := Aside0.mk (Kd.V_elder' (by qV_; exact HO_115002.out) (Kd.N_base ho80) hb)
         have n1_ := Aside0.mk (Kd.N_lower ho80 (below_size (by qb1_ GE114)))
         lf512_
         lf513_
         clear HO_115002
         clear BK114
         clear HB
         clear HO130
         clear HO133
         clear HO136
         clear HO139
         have HO_115002 := n0_
         have HO142 := n1_
         have BK114 := n2_
         have HB := n3_
         clear n0_ n1_ n2_ n3_
         clear hb ho80
         refine hK.out _ _ ⟨.slice Ao75 y128.length co75, .slice Ao76 t131.length co76, .slice Ao77 t134.length co77, .slice Ao78 t137.length co78, v141, v144, m21_, (by rw [ha.out]; exact putSel_upk 14 hb_ rfl rfl rfl), (by qV_; exact Kd.V_mono HO_115002.out (fun _ hk => (by first | exact ⟨hk.1.1, ⟨hk.2, hk.1.2.2.2.2.2⟩⟩ | exact hk | grind))), (by qk_; exact BK114.out), (by qb1_ GE114), fun _ h1_ => absurd ((up_self b 19).symm.trans h1_) (by decide), fun _ h1_ => absurd ((up_self b 19).symm.trans h1_) (by decide), fun _ h1_ => absurd ((up_self b 19).symm.trans h1_) (by decide), fun _ h1_ => absurd ((up_self b 19).symm.trans h1_) (by decide), fun _ => (by qN_; first | exact HO142.out | exact Kd.N_mono HO142.out (fun _ hk => by first | exact hk.1 | grind)), fun h0_ => absurd ((hoff 20 (by kernel_rfl)).symm.trans h0_) (by decide), fun h0_ => absurd ((hoff 21 (by kernel_rfl)).symm.trans h0_) (by decide)⟩
        refine steps_cons ?_ ?_
        ·lf528_
         refine ⟨_, rfl, fun K hK => ?_⟩
         have e58 : a.tmps[58]? = some (v141) := by rw [ha]; exact putSel_on (e := (19, 58, v141)) 14 rfl rfl (hon 19 (by kernel_rfl)) rfl
         replace ha := Aside0.mk ha
         have HO_115002 := Aside0.mk Q_HO_115002
         have BK114 := Aside0.mk Q_BK114
         have HB := Aside0.mk Q_HB
         lf564_
         obtain ⟨Ao81, co81, eo81⟩ := Kd.N_slice HO142.out
         (first | subst eo81 | (injection eo81 with f1_ f2_ f3_; have f4_ := f1_.symm; have f5_ := f3_.symm; clear f1_ f2_ f3_; subst f4_; subst f5_))
         refine goes_ Tryd.func20 (by kernel_rfl) rfl #[.slice Ao81 y140.length co81] (by rfl) rfl rfl (by first | (simp only [List.map_toArray, List.map_cons, List.map_nil, Act.eval, Array.getD_eq_getD_getElem?, Option.getD_some, e58]; done) | (simp only [List.map_toArray, List.map_cons, List.map_nil, Act.eval, Array.getD_eq_getD_getElem?, Option.getD_some, e58]; rfl)) ?_
         with_reducible refine (slices_Concat_byte_byte.calls _ _ y140 t143 _ ?side1 ?side2 A33.out).mono ?_
         lf565_
         (case side2 => exact (Kd.N_reads' HO142.out).2.1)
         rintro e w82 ⟨v144, rfl, ho0, hb⟩
         refine ⟨_, rfl, ?_⟩
         lf515_
         lf566_
         lf517_
         lf518_
         lf519_
         clear HO_115002
         clear HO142
         clear BK114
         clear HB
         have HO_115002 := n0_
         have HO142 := n1_
         have HO145 := n2_
         have BK114 := n3_
         have HB := n4_
         clear n0_ n1_ n2_ n3_ n4_
         (try clear hb)
         (try clear hb2)
         (try clear hk)
         (try clear hi)
         (try clear ho0)
         refine hK.out _ _ ⟨v129, v132, v135, v138, .slice Ao81 y140.length co81, v144, m21_, (by rw [ha.out]; exact putSel_upk 15 hb_ rfl rfl rfl), (pf55_), (by qk_; exact BK114.out), (by qb1_ GE114), fun _ h1_ => absurd ((hon 19 (by kernel_rfl)).symm.trans h1_) (by decide), fun _ h1_ => absurd ((hon 19 (by kernel_rfl)).symm.trans h1_) (by decide), fun _ h1_ => absurd ((hon 19 (by kernel_rfl)).symm.trans h1_) (by decide), fun _ h1_ => absurd ((hon 19 (by kernel_rfl)).symm.trans h1_) (by decide), fun _ => (by qN_; exact Kd.N_mono HO142.out (fun _ hk => (by first | exact ⟨hk.1.1, ⟨hk.2, hk.1.2⟩⟩ | exact hk | grind))), fun _ => (by qR_; exact Kd.R_mono HO145.out (fun _ hk => (pf56_))), fun h0_ => absurd ((hoff 21 (by kernel_rfl)).symm.trans h0_) (by decide)⟩
        refine steps_cons ?_ ?_
        ·lf528_
         refine ⟨_, rfl, fun K hK => ?_⟩
         have e59 : a.tmps[59]? = some (v144) := by rw [ha]; exact putSel_on (e := (20, 59, v144)) 15 rfl rfl (hon 20 (by kernel_rfl)) rfl
         replace ha := Aside0.mk ha
         have HO_115002 := Aside0.mk Q_HO_115002
         have BK114 := Aside0.mk Q_BK114
         have HB := Aside0.mk Q_HB
         lf564_
         have HO145 := Aside0.mk (Q_HO145 (hon 20 (by kernel_rfl)))
         refine value_ (w1 := w') (v := v144) (by rfl) rfl ?_ ?_
         ·go_simp
          (try simp only [i64_w])
          try rfl
         lf567_
        exact steps_nil
       rintro b a w82 hall ⟨v129, v132, v135, v138, v141, v144, m21_, ha, Q_HO_115002, Q_BK114, Q_HB, Q_HO130, Q_HO133, Q_HO136, Q_HO139, Q_HO142, Q_HO145, Q_X21_⟩
       clear BK114 HB HO_115002
       have hb1_ := hall 1 (by kernel_rfl)
       have hb2_ := hall 2 (by kernel_rfl)
       have hb3_ := hall 3 (by kernel_rfl)
       have hb5_ := hall 5 (by kernel_rfl)
       have hb6_ := hall 6 (by kernel_rfl)
       have hb7_ := hall 7 (by kernel_rfl)
       have hb8_ := hall 8 (by kernel_rfl)
       have hb9_ := hall 9 (by kernel_rfl)
       have hb11_ := hall 11 (by kernel_rfl)
       have hb12_ := hall 12 (by kernel_rfl)
       have hb14_ := hall 14 (by kernel_rfl)
       have hb15_ := hall 15 (by kernel_rfl)
       have hb17_ := hall 17 (by kernel_rfl)
       have hb18_ := hall 18 (by kernel_rfl)
       have hb19_ := hall 19 (by kernel_rfl)
       have hb20_ := hall 20 (by kernel_rfl)
       have hb21_ := hall 21 (by kernel_rfl)
       subst ha
       obtain rfl := Q_X21_ hb21_
       lf568_
       have HO_115002 := Aside0.mk Q_HO_115002
       clear Q_HO_115002
       have BK114 := Aside0.mk Q_BK114
       clear Q_BK114
       have HB := Aside0.mk Q_HB
       clear Q_HB
       clear Q_HO130
       clear Q_HO133
       clear Q_HO136
       clear Q_HO139
       have HO142 := Aside0.mk (Q_HO142 hb19_)
       clear Q_HO142
       have HO145 := Aside0.mk (Q_HO145 hb20_)
       clear Q_HO145
       clear hall hb1_ hb2_ hb3_ hb5_ hb6_ hb7_ hb8_ hb9_ hb11_ hb12_ hb14_ hb15_ hb17_ hb18_ hb19_ hb20_ hb21_
       have hcz83_0 : w82.cell? ⟨gb114, 0, none⟩ = some (.int .i64 a0_0) := (blk_cell BK114.out 0).trans rfl
       have hcz83_1 : w82.cell? ⟨gb114, 1, none⟩ = some (.int .i64 a0_1) := (blk_cell BK114.out 1).trans rfl
       have hcz83_2 : w82.cell? ⟨gb114, 2, none⟩ = some (.slice A0_2 l0_2.length c0_2) := (blk_cell BK114.out 2).trans rfl
       have hcz83_3 : w82.cell? ⟨gb114, 3, none⟩ = some (.slice A0_3 l0_3.length c0_3) := (blk_cell BK114.out 3).trans rfl
       have hcz83_4 : w82.cell? ⟨gb114, 4, none⟩ = some (.slice A0_4 l0_4.length c0_4) := (blk_cell BK114.out 4).trans rfl
       have hcz83_5 : w82.cell? ⟨gb114, 5, none⟩ = some (.int .i64 a0_5) := (blk_cell BK114.out 5).trans rfl
       have hcz83_6 : w82.cell? ⟨gb114, 6, none⟩ = some (.int .i64 a0_6) := (blk_cell BK114.out 6).trans rfl
       have hcz83_7 : w82.cell? ⟨gb114, 7, none⟩ = some (.int .i64 a0_7) := (blk_cell BK114.out 7).trans rfl
       have hfz83_0 := blk_frozen BK114.out 0
       have hfz83_1 := blk_frozen BK114.out 1
       have hfz83_2 := blk_frozen BK114.out 2
       have hfz83_3 := blk_frozen BK114.out 3
       have hfz83_4 := blk_frozen BK114.out 4
       have hfz83_5 := blk_frozen BK114.out 5
       have hfz83_6 := blk_frozen BK114.out 6
       have hfz83_7 := blk_frozen BK114.out 7
       try go_wp2
       lf51_
       have n1_ := Aside0.mk (Kd.N_drew HO142.out)
       have n2_ := Aside0.mk (Kd.R_drew HO145.out)
       have n3_ := Aside0.mk (blk_drew BK114.out)
       have n4_ := Aside0.mk (below_drew1 HB.out)
       clear HO_115002
       clear HO142
       clear HO145
       clear BK114
       clear HB
       have HO_115002 := n0_
       have HO142 := n1_
       have HO145 := n2_
       have BK114 := n3_
       have HB := n4_
       clear n0_ n1_ n2_ n3_ n4_
       obtain ⟨Ao85, co85, eo85⟩ := Kd.R_slice HO145.out
       (first | subst eo85 | (injection eo85 with f1_ f2_ f3_; have f4_ := f1_.symm; have f5_ := f3_.symm; clear f1_ f2_ f3_; subst f4_; subst f5_))
       lf569_
       generalize w82.drew = w84 at HO_115002 HO142 HO145 BK114 HB hHeld ⊢
       lf570_
       rotate_left
       ·intro w'
        go_simp
        with_reducible rfl
       rotate_left
       ·qp_
        rfl
       lf571_
       rotate_left
       ·intro w'
        go_simp
        with_reducible rfl
       rotate_left
       ·qp_
        rfl
       lf572_
       rotate_left
       ·intro w'
        go_simp
        with_reducible rfl
       rotate_left
       ·qp_
        rfl
       lf573_
       rotate_left
       ·intro w'
        go_simp
        with_reducible rfl
       rotate_left
       ·qp_
        rfl
       lf574_
       rotate_left
       ·intro w'
        go_simp
        with_reducible rfl
       rotate_left
       ·qp_
        rfl
       lf575_
       rotate_left
       ·lf576_
        go_simp
        with_reducible rfl
       rotate_left
       ·qp_
        rfl
       lf577_
       rotate_left
       ·intro w'
        go_simp
        with_reducible rfl
       rotate_left
       ·qp_
        rfl
       lf578_
       rotate_left
       ·lf576_
        go_simp
        with_reducible rfl
       rotate_left
       ·qp_
        rfl
       lf579_
       rotate_left
       ·lf576_
        go_simp
        with_reducible rfl
       rotate_left
       ·qp_
        rfl
       lf580_
       refine goes_ Tryd.func24 (by kernel_rfl) rfl #[.slice Ao85 t143.length co85, .int .i64 (wrap64 (a0_7 + a1))] (by rfl) rfl rfl (pf52_) ?_
       with_reducible refine (varint_Append.calls kj2 _ _ t143 (wrap64 (a0_7 + a1)) t158 _ ?side1 ?side2 ?sideT A64.out).mono ?_
       lf581_
       (case side1 => repeat (first | exact (Kd.R_reads' HO145.out).2.2 | (with_reducible refine Kd.C_alloc ?_ _) | (with_reducible refine Kd.C_drewN ?_ _) | (with_reducible refine Kd.C_drew ?_)))
       (case side2 => exact (Kd.R_reads' HO145.out).2.1)
       rintro e w86 ⟨v159, rfl, ho0, hb⟩
       refine ⟨_, rfl, ?_⟩
       lf515_
       lf566_
       lf582_
       have n3_ := Aside0.mk (Kd.R_lower (Kd.R_new' (Kd.R_newM (M := fun k_ => (w.heap.size ≤ k_)) ho0 (below_size (by qb1_ GE114)) (fun k_ h_ => h_)) (Kd.R_lt (by qR_; exact HO145.out))) (below_size (by qb1_ GE114)))
       lf562_
       have n5_ := Aside0.mk (below_step (by qb1_ GE114) hb)
       clear HO_115002
       clear HO142
       clear HO145
       clear BK114
       clear HB
       have HO_115002 := n0_
       have HO142 := n1_
       have HO145 := n2_
       have HO160 := n3_
       have BK114 := n4_
       have HB := n5_
       clear n0_ n1_ n2_ n3_ n4_ n5_
       (try clear hb)
       (try clear hb2)
       (try clear hk)
       (try clear hi)
       (try clear ho0)
       lf583_
       clear hK K
       refine norm_ (a' := ?_) ?_ ?_
       rotate_left
       ·show Act.put _ (some 72) _ = _
        qp_
        rfl
       lf584_
       refine goes_ Tryd.func21 (by kernel_rfl) rfl #[.int .i64 a0_6, .int .i64 a0_7] (by rfl) rfl rfl (pf52_) ?_
       with_reducible refine (header_big.calls kj2 a0_6 a0_7 t161 _ A65.out).mono ?_
       rintro e w87 ⟨v162, rfl, ho0, hb⟩
       refine ⟨_, rfl, ?_⟩
       lf515_
       lf566_
       lf582_
       have n3_ := Aside0.mk (Kd.R_elder' (by qR_; exact HO160.out) (Kd.R_base ho0) hb)
       have n4_ := Aside0.mk (Kd.R_lower (Kd.R_new' (Kd.R_new' (Kd.R_newM (M := fun k_ => (w.heap.size ≤ k_)) ho0 (below_size (by qb1_ GE114)) (fun k_ h_ => h_)) (Kd.R_lt (by qR_; exact HO145.out))) (Kd.R_lt (by qR_; exact HO160.out))) (below_size (by qb1_ GE114)))
       have n5_ := Aside0.mk (blk_below (g := gb114) (o := (of50_)) (by qk_; exact BK114.out) hb)
       have n6_ := Aside0.mk (below_step (by qb1_ GE114) hb)
       clear HO_115002
       clear HO142
       clear HO145
       clear HO160
       clear BK114
       clear HB
       have HO_115002 := n0_
       have HO142 := n1_
       have HO145 := n2_
       have HO160 := n3_
       have HO163 := n4_
       have BK114 := n5_
       have HB := n6_
       clear n0_ n1_ n2_ n3_ n4_ n5_ n6_
       (try clear hb)
       (try clear hb2)
       (try clear hk)
       (try clear hi)
       (try clear ho0)
       obtain ⟨Ao89, co89, eo89⟩ := Kd.R_slice HO163.out
       (first | subst eo89 | (injection eo89 with f1_ f2_ f3_; have f4_ := f1_.symm; have f5_ := f3_.symm; clear f1_ f2_ f3_; subst f4_; subst f5_))
       lf583_
       clear hK K
       refine norm_ (a' := ?_) ?_ ?_
       rotate_left
       ·show Act.put _ (some 77) _ = _
        qp_
        rfl
       lf585_
       refine Kd.R_append_rows_step (Kd.int .u8) (w0 := w) w.heap.size (by rfl) (.tmp 72) (.tmp 77) 22 5 (.int .u8 0) 1 rfl Tryd.underlying22 info5 rfl (by decide) (by omega) v159 t158 t161 _ _ _ (fun k_ => (w.heap.size ≤ k_) ∧ some k_ ≠ (.slice Ao85 t143.length co85 : Value).ownBlock ∧ some k_ ≠ (.slice Ao89 t161.length co89 : Value).ownBlock) (fun _ => False) rfl rfl ?aO ?aR (fun _ _ h => h) (fun _ h => h.elim) ?aF ?aB ?aS ?aL ?_
       (case aR => repeat (first | exact (Kd.R_reads' HO163.out).2.2 | (with_reducible refine Kd.C_alloc ?_ _) | (with_reducible refine Kd.C_drewN ?_ _) | (with_reducible refine Kd.C_drew ?_)))
       (case aB => exact (by qb1_ GE114))
       (case aF => exact (fun k_ hk => ⟨(Nat.le_trans (below_size (by qb1_ GE114)) hk), Kd.fresh' (Kd.R_lt (by qR_; exact HO145.out)) k_ hk, Kd.fresh' (Kd.R_lt (by qR_; exact HO163.out)) k_ hk⟩))
       (case aO => exact (by qR_; exact Kd.R_mono HO160.out (fun _ hk => (by first | exact ⟨hk.1.1.1, ⟨hk.1.2, hk.2⟩⟩ | exact hk | grind))))
       (case aS => exact (below_size (by qb1_ GE114)))
       (case aL => have := LMc66.out; omega)
       intro v165 w88 ho hb hg hat
       rw [← Ny164.out] at ho
       first | have n0_ := Aside0.mk (Kd.V_afterv (ok := (fun k_ => (P0_2_ k_ ∨ w.heap.size ≤ k_) ∧ some k_ ≠ (v141 : Value).ownBlock ∧ some k_ ≠ (.slice Ao85 t143.length co85 : Value).ownBlock ∧ some k_ ≠ (.slice Ao89 t161.length co89 : Value).ownBlock ∧ k_ ≠ gb114)) (by qV_; exact Kd.V_mono HO_115002.out (fun _ hk => (by first | exact ⟨⟨hk.1.1.1, ⟨hk.1.1.2.1, ⟨hk.1.1.2.2.1, ⟨hk.2, hk.1.1.2.2.2⟩⟩⟩⟩, hk.1.2⟩ | exact hk | grind))) hg hat) | have n0_ := True.intro
       have n1_ := Aside0.mk (blk_grown (g := gb114) (o := (of50_)) (by qk_; exact BK114.out) hg (Kd.R_ne HO160.out BK114.out (by decide)))
       first | have n2_ := Aside0.mk (Kd.N_afterv (ok := (fun k_ => (P0_2_ k_ ∨ w.heap.size ≤ k_) ∧ some k_ ≠ (.slice Ao85 t143.length co85 : Value).ownBlock ∧ some k_ ≠ (.slice Ao89 t161.length co89 : Value).ownBlock ∧ k_ ≠ gb114)) (by qN_; exact Kd.N_mono HO142.out (fun _ hk => (by first | exact ⟨⟨hk.1.1.1, ⟨hk.1.1.2.1, ⟨hk.2, hk.1.1.2.2⟩⟩⟩, hk.1.2⟩ | exact hk | grind))) hg hat) | have n2_ := True.intro
       first | have n3_ := Aside0.mk (Kd.R_after (ok := (fun k_ => (w.heap.size ≤ k_) ∧ some k_ ≠ (.slice Ao89 t161.length co89 : Value).ownBlock)) (by qR_; exact Kd.R_mono HO145.out (fun _ hk => (by first | exact ⟨⟨hk.1.1, hk.2⟩, hk.1.2⟩ | exact hk | grind))) hg hat) | have n3_ := True.intro
       first | have n4_ := Aside0.mk (Kd.R_after (ok := (fun k_ => (w.heap.size ≤ k_) ∧ some k_ ≠ (.slice Ao85 t143.length co85 : Value).ownBlock)) (by qR_; exact Kd.R_mono HO163.out (fun _ hk => (by first | exact ⟨⟨hk.1.1.1, hk.1.2⟩, hk.2⟩ | exact hk | grind))) hg hat) | have n4_ := True.intro
       have n5_ := Aside0.mk (hb)
       have n6_ := Aside0.mk (ho)
       clear HO_115002
       clear BK114
       clear HO142
       clear HO145
       clear HO163
       clear HB
       clear HO160
       have HO_115002 := n0_
       have BK114 := n1_
       have HO142 := n2_
       have HO145 := n3_
       have HO163 := n4_
       have HB := n5_
       have HO166 := n6_
       clear n0_ n1_ n2_ n3_ n4_ n5_ n6_
       clear ho hb hg hat
       lf583_
       clear hK K
       refine norm_ (a' := ?_) ?_ ?_
       rotate_left
       ·show Act.put _ (some 78) _ = _
        qp_
        rfl
       lf586_
       rotate_left
       ·intro w'
        go_simp
        with_reducible rfl
       rotate_left
       ·qp_
        rfl
       refine done_ (done_of HT_.out (by kernel_rfl)) ?_
       try go_wp2
       go_ret
       exact ⟨_, by first | rfl | (simp [errW_none, errW_some] <;> rfl) | (simp [*, errW_none, errW_some] <;> rfl), by qR_; exact Kd.R_mono HO166.out (fun _ hk => (pf56_)), by qb1_ GE114⟩
      ·rw [if_neg c66] at H
       exact absurd H (by simp)
end Go.Proofs.YtpihkmpcnkhnfaaDoor.QHe
