/- A part of the proof of the law FrameReads: QFrx3, QFrx4, QFrx5. -/
import Derived.Test.YtbcleckapamicaaDoorZFrd02
import Derived.Test.YtbcleckapamicaaDoorZFrd03
import Derived.Test.YtbcleckapamicaaDoorZFrd04
namespace Go.Proofs.YtbcleckapamicaaDoor.QFr
open Go.RowKit Go.Proofs.YtbcleckapamicaaDoorW.PrintWords Go.Proofs.YtbcleckapamicaaDoorW.PrintLast Go.Proofs.YtbcleckapamicaaDoorW.PrintMore
attribute [local go_sem] max2_int min2_int max_two min_two max_three min_three max_four min_four
set_option linter.unusedVariables false
set_option linter.unusedSimpArgs false
open Go.Proofs.YtbcleckapamicaaDoor.Gv (varint_Size.f varint_Size.calls)
open Go.Proofs.YtbcleckapamicaaDoor.Gf (ideal_Number.f ideal_Number.calls)
set_option hygiene false
local macro "oi80_" : term => `(.cells #[.int .i64 a0_0, .int .i64 a0_1, .slice A0_2 l0_2.length c0_2, .int .i64 a0_3, .slice A0_4 l0_4.length c0_4, .int .i64 a0_5] 58 (0, 0))
local macro "pi80_" : term => `((if a0_0 = 0 then (if a0_1 ≥ 1 then (if a0_1 ≤ 1200 then ((frame_bare.f a0_0 a0_1 l0_2 a0_3 l0_4 a0_5 true false false false).bind fun t113 => (some t113)) else (some false)) else (some false)) else (if a0_0 = 1 then (frame_Right.j0 k (decide ((t109.length : Int) > 0)) (decide (t112 > 0)) a0_0 (a0_0 == 1) a0_0 a0_1 l0_2 a0_3 l0_4 a0_5) else (frame_Right.j0 k (decide ((t109.length : Int) > 0)) (decide (t112 > 0)) a0_0 (a0_0 == 30) a0_0 a0_1 l0_2 a0_3 l0_4 a0_5))))
local macro "pi81_" : term => `((by (try simp only [List.map_toArray, List.map_cons, List.map_nil]); first | done | rfl | (simp only [List.length_drop, List.length_take]; rfl)))
local macro "pi82_" : term => `((by rw [hg]; exact (below_size (by qc0_)) : w.heap.size ≤ gb108))
local macro "li80_" : tactic => `(tactic| (replace H := Option.bind_eq_some_iff.mp H))
local macro "li81_" : tactic => `(tactic| (exact ⟨by first | rfl | (simp [errW_none, errW_some] <;> rfl) | (simp [*, errW_none, errW_some] <;> rfl), by qb1_ GE108⟩))
set_option hygiene true
def frame_Right.j0 : Nat → Bool → Bool → Int → Bool → Int → Int → List (S103) → Int → List Int → Int → Option (Bool)
 | 0, _, _, _, _, _, _, _, _, _, _ => none
 | k + 1, x3, x4, x15, x30, x109000, x109001, x109002, x109003, x109004, x109005 => if x30 = true then ((frame_bare.f x109000 x109001 x109002 x109003 x109004 x109005 false false false false).bind fun t114 => (some t114)) else (if x15 = 2 then ((frame_spanned.f k x109002).bind fun t115 => (if t115 = true then ((frame_bare.f x109000 x109001 x109002 x109003 x109004 x109005 false true false false).bind fun t116 => (some t116)) else (some false))) else (if x15 = 6 then (if x109003 ≥ 0 then (if x109003 ≤ 1048576 then (if (x109004.length : Int) ≥ 1 then (if (x109004.length : Int) ≤ 1000 then ((frame_bare.f x109000 x109001 x109002 x109003 x109004 x109005 false false true false).bind fun t117 => (some t117)) else (some false)) else (some false)) else (some false)) else (some false)) else (if x15 = 7 then (if x3 = true then ((frame_bare.f x109000 x109001 x109002 x109003 x109004 x109005 false false false true).bind fun t118 => (some t118)) else (some false)) else (if x15 = 8 then (if x3 = true then (if x4 = true then ((frame_bare.f x109000 x109001 x109002 x109003 x109004 x109005 true false false true).bind fun t119 => (some t119)) else (some false)) else (some false)) else (if x15 = 28 then (if x4 = true then ((frame_bare.f x109000 x109001 x109002 x109003 x109004 x109005 true false false false).bind fun t120 => (some t120)) else (some false)) else (some false))))))
def frame_Right.f (k : Nat) (a0_0 : Int) (a0_1 : Int) (l0_2 : List (S103)) (a0_3 : Int) (l0_4 : List Int) (a0_5 : Int) : Option (Bool) := (ideal_Number.f a0_5).bind fun t109 => ((varint_Size.f a0_1).bind fun t112 => (pi80_))
theorem frame_Right.mono_l : ∀ k, (∀ y0 y1 y2 y3 y4 y5 y6 y7 y8 y9, LeO (frame_Right.j0 k y0 y1 y2 y3 y4 y5 y6 y7 y8 y9) (frame_Right.j0 (k + 1) y0 y1 y2 y3 y4 y5 y6 y7 y8 y9))
 | 0 => fun _ _ _ _ _ _ _ _ _ _ r h => by simp [frame_Right.j0] at h
 | k + 1 => by
  have ih0 := frame_Right.mono_l k
  ·intro y0 y1 y2 y3 y4 y5 y6 y7 y8 y9
   unfold frame_Right.j0
   repeat' first
   | (with_reducible exact ih0 _ _ _ _ _ _ _ _ _ _)
   | (with_reducible exact frame_spanned.mono _ _)
   | (with_reducible exact LeO.refl _)
   | (with_reducible exact LeO.none _)
   | (with_reducible refine LeO.ite ?_ ?_)
   | (with_reducible refine LeO.bind ?_ (fun _ => ?_))
   | exact ih0 _ _ _ _ _ _ _ _ _ _
   | exact frame_spanned.mono _ _
   | exact LeO.none _
   | refine LeO.ite ?_ ?_
   | refine LeO.bind ?_ (fun _ => ?_)
theorem frame_Right.mono : ∀ a0 a1 a2 a3 a4 a5 k, LeO (frame_Right.f k a0 a1 a2 a3 a4 a5) (frame_Right.f (k + 1) a0 a1 a2 a3 a4 a5) := by
 intro a0 a1 a2 a3 a4 a5 k
 have ih0 := frame_Right.mono_l k
 unfold frame_Right.f
 repeat' first
   | (with_reducible exact ih0 _ _ _ _ _ _ _ _ _ _)
   | (with_reducible exact frame_spanned.mono _ _)
   | (with_reducible exact LeO.refl _)
   | (with_reducible exact LeO.none _)
   | (with_reducible refine LeO.ite ?_ ?_)
   | (with_reducible refine LeO.bind ?_ (fun _ => ?_))
   | exact ih0 _ _ _ _ _ _ _ _ _ _
   | exact frame_spanned.mono _ _
   | exact LeO.none _
   | refine LeO.ite ?_ ?_
   | refine LeO.bind ?_ (fun _ => ?_)
set_option maxHeartbeats 8000000 in
set_option maxRecDepth 100000 in
theorem frame_Right.calls (k : Nat) (a0_0 : Int) (a0_1 : Int) (A0_2 : Option Addr) (c0_2 : Nat) (l0_2 : List (S103)) (a0_3 : Int) (A0_4 : Option Addr) (c0_4 : Nat) (l0_4 : List Int) (a0_5 : Int) (r : Bool) (w : World) (hr0_2 : Kd.C k103 w A0_2 l0_2.length l0_2) (hc0_2 : l0_2.length ≤ c0_2) (hr0_4 : Kd.C (Kd.int .u8) w A0_4 l0_4.length l0_4) (hc0_4 : l0_4.length ≤ c0_4) (h : frame_Right.f k a0_0 a0_1 l0_2 a0_3 l0_4 a0_5 = some r) :
  Calls Tryd.prog 42 #[.agg #[.int .i64 a0_0, .int .i64 a0_1, .slice A0_2 l0_2.length c0_2, .int .i64 a0_3, .slice A0_4 l0_4.length c0_4, .int .i64 a0_5]] w fun e w' => e = .returned (.bool r) ∧ Below w.heap.size w w' := by
 have hu58 := Tryd.underlying58
 have HR0_2 := Aside0.mk hr0_2
 have HC0_2 := Aside0.mk hc0_2
 clear hr0_2 hc0_2
 have HR0_4 := Aside0.mk hr0_4
 have HC0_4 := Aside0.mk hc0_4
 clear hr0_4 hc0_4
 have HB := Aside0.mk (Below.refl w.heap.size w)
 have H : ((ideal_Number.f a0_5).bind fun t109 => ((varint_Size.f a0_1).bind fun t112 => (pi80_))) = some r := h
 clear h
 li80_
 obtain ⟨t109, A20, H⟩ := H
 replace H : ((varint_Size.f a0_1).bind fun t112 => (pi80_)) = some r := H
 have A2 := Aside0.mk A20
 clear A20
 li80_
 obtain ⟨t112, A30, H⟩ := H
 replace H : (pi80_) = some r := H
 have A3 := Aside0.mk A30
 clear A30
 by_cases c4 : a0_0 = 0
 ·rw [if_pos c4] at H
  have c4b0 : (a0_0 == 0) = true := beq_iff_eq.mpr c4
  have c4b1 : (a0_0 != 0) = false := bne_eq_false_iff_eq.mpr c4
  clear c4
  by_cases c5 : a0_1 ≥ 1
  ·rw [if_pos c5] at H
   have c5b0 : decide (1 ≤ a0_1) = true := decide_eq_true c5
   clear c5
   by_cases c6 : a0_1 ≤ 1200
   ·rw [if_pos c6] at H
    have c6b0 : decide (a0_1 ≤ 1200) = true := decide_eq_true c6
    clear c6
    li80_
    obtain ⟨t113, A70, H⟩ := H
    replace H : (some t113) = some r := H
    have A7 := Aside0.mk A70
    clear A70
    obtain rfl := Option.some.inj H
    go_enter Tryd.func42, Tryd.ntmps42
    go_wp2_with (first | ((with_reducible refine gate_dst (N := 1) rfl ?_); (try (refine gate_guard (by rfl) ?_; dsimp only)); refine box_event ?hg (N := 1) ?hd (cs := #[.int .i64 a0_0, .int .i64 a0_1, .slice A0_2 l0_2.length c0_2, .int .i64 a0_3, .slice A0_4 l0_4.length c0_4, .int .i64 a0_5]) (t := 58) ?hr ?_; (case hd => rfl); (case hg => rfl); (case hr => first | (go_simp; done) | (go_simp; rfl)); intro gb108 hg w8 hbox hb; have n0_ := Aside0.mk (below_step (by qc0_) hb); have n1_ := Aside0.mk (hbox); have n2_ := Aside0.mk ((pi82_)); have n3_ := Aside0.mk ((pi82_)); clear HB; have HB := n0_; have BK108 := n1_; have GW108 := n2_; have GE108 := n3_; clear n0_ n1_ n2_ n3_; clear hb hbox hg; have hcz9_0 : w8.cell? ⟨gb108, 0, none⟩ = some (.int .i64 a0_0) := (blk_cell BK108.out 0).trans rfl; have hcz9_1 : w8.cell? ⟨gb108, 1, none⟩ = some (.int .i64 a0_1) := (blk_cell BK108.out 1).trans rfl; have hcz9_2 : w8.cell? ⟨gb108, 2, none⟩ = some (.slice A0_2 l0_2.length c0_2) := (blk_cell BK108.out 2).trans rfl; have hcz9_3 : w8.cell? ⟨gb108, 3, none⟩ = some (.int .i64 a0_3) := (blk_cell BK108.out 3).trans rfl; have hcz9_4 : w8.cell? ⟨gb108, 4, none⟩ = some (.slice A0_4 l0_4.length c0_4) := (blk_cell BK108.out 4).trans rfl; have hcz9_5 : w8.cell? ⟨gb108, 5, none⟩ = some (.int .i64 a0_5) := (blk_cell BK108.out 5).trans rfl; have hfz9_0 := blk_frozen BK108.out 0; have hfz9_1 := blk_frozen BK108.out 1; have hfz9_2 := blk_frozen BK108.out 2; have hfz9_3 := blk_frozen BK108.out 3; have hfz9_4 := blk_frozen BK108.out 4; have hfz9_5 := blk_frozen BK108.out 5) | ((with_reducible refine gate_callee (f := 65) rfl ?_); refine goesL_ (some 7) rfl rfl Tryd.func65 (by kernel_rfl) rfl #[.int .i64 a0_5] rfl (pi81_) ?_; (with_reducible refine (ideal_Number.calls a0_5 t109 _ A2.out).mono ?_); rintro e w10 ⟨v110, rfl, ho0, hb⟩; refine ⟨_, rfl, ?_⟩; have n0_ := Aside0.mk (Kd.R_lower ho0 (below_size (by qb1_ GE108))); have n1_ := Aside0.mk (blk_below (g := gb108) (o := (oi80_)) (by qk_; exact BK108.out) hb); have n2_ := Aside0.mk (below_step (by qb1_ GE108) hb); clear BK108; clear HB; have HO111 := n0_; have BK108 := n1_; have HB := n2_; clear n0_ n1_ n2_; (try clear hb); (try clear hb2); (try clear hk); (try clear hi); (try clear ho0); obtain ⟨Ao11, co11, eo11⟩ := Kd.R_slice HO111.out; subst eo11; have hcz12_0 : w10.cell? ⟨gb108, 0, none⟩ = some (.int .i64 a0_0) := (blk_cell BK108.out 0).trans rfl; have hcz12_1 : w10.cell? ⟨gb108, 1, none⟩ = some (.int .i64 a0_1) := (blk_cell BK108.out 1).trans rfl; have hcz12_2 : w10.cell? ⟨gb108, 2, none⟩ = some (.slice A0_2 l0_2.length c0_2) := (blk_cell BK108.out 2).trans rfl; have hcz12_3 : w10.cell? ⟨gb108, 3, none⟩ = some (.int .i64 a0_3) := (blk_cell BK108.out 3).trans rfl; have hcz12_4 : w10.cell? ⟨gb108, 4, none⟩ = some (.slice A0_4 l0_4.length c0_4) := (blk_cell BK108.out 4).trans rfl; have hcz12_5 : w10.cell? ⟨gb108, 5, none⟩ = some (.int .i64 a0_5) := (blk_cell BK108.out 5).trans rfl; have hfz12_0 := blk_frozen BK108.out 0; have hfz12_1 := blk_frozen BK108.out 1; have hfz12_2 := blk_frozen BK108.out 2; have hfz12_3 := blk_frozen BK108.out 3; have hfz12_4 := blk_frozen BK108.out 4; have hfz12_5 := blk_frozen BK108.out 5) | ((with_reducible refine gate_callee (f := 24) rfl ?_); refine goesL_ (some 12) rfl rfl Tryd.func24 (by kernel_rfl) rfl #[.int .i64 a0_1] rfl (pi81_) ?_; (with_reducible refine (varint_Size.calls a0_1 t112 _ A3.out).mono ?_); rintro e w' ⟨rfl, ⟨nd, rfl⟩⟩; refine ⟨_, rfl, ?_⟩) | (go_at_call 66; (with_reducible refine (frame_bare.calls a0_0 a0_1 _ _ l0_2 a0_3 _ _ l0_4 a0_5 true false false false t113 _ ?side1 ?side2 ?side3 ?side4 A7.out).mono ?_); (case side1 => repeat (first | exact (Kd.C_below HR0_2.out (by qb1_ GE108)) | (with_reducible refine Kd.C_alloc ?_ _) | (with_reducible refine Kd.C_drewN ?_ _) | (with_reducible refine Kd.C_drew ?_))); (case side2 => exact HC0_2.out); (case side3 => repeat (first | exact (Kd.C_below HR0_4.out (by qb1_ GE108)) | (with_reducible refine Kd.C_alloc ?_ _) | (with_reducible refine Kd.C_drewN ?_ _) | (with_reducible refine Kd.C_drew ?_))); (case side4 => exact HC0_4.out); rintro e w13 ⟨rfl, hb⟩; have n0_ := Aside0.mk (Kd.R_below (by qR_; exact HO111.out) hb); have n1_ := Aside0.mk (blk_below (g := gb108) (o := (oi80_)) (by qk_; exact BK108.out) hb); have n2_ := Aside0.mk (below_step (by qb1_ GE108) hb); clear HO111; clear BK108; clear HB; have HO111 := n0_; have BK108 := n1_; have HB := n2_; clear n0_ n1_ n2_; (try clear hb); (try clear hb2); (try clear hk); (try clear hi)))
    go_ret
    li81_
   ·rw [if_neg c6] at H
    have c6b0 : decide (a0_1 ≤ 1200) = false := decide_eq_false c6
    clear c6
    obtain rfl := Option.some.inj H
    go_enter Tryd.func42, Tryd.ntmps42
    go_wp2_with (first | ((with_reducible refine gate_dst (N := 1) rfl ?_); (try (refine gate_guard (by rfl) ?_; dsimp only)); refine box_event ?hg (N := 1) ?hd (cs := #[.int .i64 a0_0, .int .i64 a0_1, .slice A0_2 l0_2.length c0_2, .int .i64 a0_3, .slice A0_4 l0_4.length c0_4, .int .i64 a0_5]) (t := 58) ?hr ?_; (case hd => rfl); (case hg => rfl); (case hr => first | (go_simp; done) | (go_simp; rfl)); intro gb108 hg w14 hbox hb; have n0_ := Aside0.mk (below_step (by qc0_) hb); have n1_ := Aside0.mk (hbox); have n2_ := Aside0.mk ((pi82_)); have n3_ := Aside0.mk ((pi82_)); clear HB; have HB := n0_; have BK108 := n1_; have GW108 := n2_; have GE108 := n3_; clear n0_ n1_ n2_ n3_; clear hb hbox hg; have hcz15_0 : w14.cell? ⟨gb108, 0, none⟩ = some (.int .i64 a0_0) := (blk_cell BK108.out 0).trans rfl; have hcz15_1 : w14.cell? ⟨gb108, 1, none⟩ = some (.int .i64 a0_1) := (blk_cell BK108.out 1).trans rfl; have hcz15_2 : w14.cell? ⟨gb108, 2, none⟩ = some (.slice A0_2 l0_2.length c0_2) := (blk_cell BK108.out 2).trans rfl; have hcz15_3 : w14.cell? ⟨gb108, 3, none⟩ = some (.int .i64 a0_3) := (blk_cell BK108.out 3).trans rfl; have hcz15_4 : w14.cell? ⟨gb108, 4, none⟩ = some (.slice A0_4 l0_4.length c0_4) := (blk_cell BK108.out 4).trans rfl; have hcz15_5 : w14.cell? ⟨gb108, 5, none⟩ = some (.int .i64 a0_5) := (blk_cell BK108.out 5).trans rfl; have hfz15_0 := blk_frozen BK108.out 0; have hfz15_1 := blk_frozen BK108.out 1; have hfz15_2 := blk_frozen BK108.out 2; have hfz15_3 := blk_frozen BK108.out 3; have hfz15_4 := blk_frozen BK108.out 4; have hfz15_5 := blk_frozen BK108.out 5) | ((with_reducible refine gate_callee (f := 65) rfl ?_); refine goesL_ (some 7) rfl rfl Tryd.func65 (by kernel_rfl) rfl #[.int .i64 a0_5] rfl (pi81_) ?_; (with_reducible refine (ideal_Number.calls a0_5 t109 _ A2.out).mono ?_); rintro e w16 ⟨v110, rfl, ho0, hb⟩; refine ⟨_, rfl, ?_⟩; have n0_ := Aside0.mk (Kd.R_lower ho0 (below_size (by qb1_ GE108))); have n1_ := Aside0.mk (blk_below (g := gb108) (o := (oi80_)) (by qk_; exact BK108.out) hb); have n2_ := Aside0.mk (below_step (by qb1_ GE108) hb); clear BK108; clear HB; have HO111 := n0_; have BK108 := n1_; have HB := n2_; clear n0_ n1_ n2_; (try clear hb); (try clear hb2); (try clear hk); (try clear hi); (try clear ho0); obtain ⟨Ao17, co17, eo17⟩ := Kd.R_slice HO111.out; subst eo17; have hcz18_0 : w16.cell? ⟨gb108, 0, none⟩ = some (.int .i64 a0_0) := (blk_cell BK108.out 0).trans rfl; have hcz18_1 : w16.cell? ⟨gb108, 1, none⟩ = some (.int .i64 a0_1) := (blk_cell BK108.out 1).trans rfl; have hcz18_2 : w16.cell? ⟨gb108, 2, none⟩ = some (.slice A0_2 l0_2.length c0_2) := (blk_cell BK108.out 2).trans rfl; have hcz18_3 : w16.cell? ⟨gb108, 3, none⟩ = some (.int .i64 a0_3) := (blk_cell BK108.out 3).trans rfl; have hcz18_4 : w16.cell? ⟨gb108, 4, none⟩ = some (.slice A0_4 l0_4.length c0_4) := (blk_cell BK108.out 4).trans rfl; have hcz18_5 : w16.cell? ⟨gb108, 5, none⟩ = some (.int .i64 a0_5) := (blk_cell BK108.out 5).trans rfl; have hfz18_0 := blk_frozen BK108.out 0; have hfz18_1 := blk_frozen BK108.out 1; have hfz18_2 := blk_frozen BK108.out 2; have hfz18_3 := blk_frozen BK108.out 3; have hfz18_4 := blk_frozen BK108.out 4; have hfz18_5 := blk_frozen BK108.out 5) | ((with_reducible refine gate_callee (f := 24) rfl ?_); refine goesL_ (some 12) rfl rfl Tryd.func24 (by kernel_rfl) rfl #[.int .i64 a0_1] rfl (pi81_) ?_; (with_reducible refine (varint_Size.calls a0_1 t112 _ A3.out).mono ?_); rintro e w' ⟨rfl, ⟨nd, rfl⟩⟩; refine ⟨_, rfl, ?_⟩))
    go_ret
    li81_
  ·rw [if_neg c5] at H
   have c5b0 : decide (1 ≤ a0_1) = false := decide_eq_false c5
   clear c5
   obtain rfl := Option.some.inj H
   go_enter Tryd.func42, Tryd.ntmps42
   go_wp2_with (first | ((with_reducible refine gate_dst (N := 1) rfl ?_); (try (refine gate_guard (by rfl) ?_; dsimp only)); refine box_event ?hg (N := 1) ?hd (cs := #[.int .i64 a0_0, .int .i64 a0_1, .slice A0_2 l0_2.length c0_2, .int .i64 a0_3, .slice A0_4 l0_4.length c0_4, .int .i64 a0_5]) (t := 58) ?hr ?_; (case hd => rfl); (case hg => rfl); (case hr => first | (go_simp; done) | (go_simp; rfl)); intro gb108 hg w19 hbox hb; have n0_ := Aside0.mk (below_step (by qc0_) hb); have n1_ := Aside0.mk (hbox); have n2_ := Aside0.mk ((pi82_)); have n3_ := Aside0.mk ((pi82_)); clear HB; have HB := n0_; have BK108 := n1_; have GW108 := n2_; have GE108 := n3_; clear n0_ n1_ n2_ n3_; clear hb hbox hg; have hcz20_0 : w19.cell? ⟨gb108, 0, none⟩ = some (.int .i64 a0_0) := (blk_cell BK108.out 0).trans rfl; have hcz20_1 : w19.cell? ⟨gb108, 1, none⟩ = some (.int .i64 a0_1) := (blk_cell BK108.out 1).trans rfl; have hcz20_2 : w19.cell? ⟨gb108, 2, none⟩ = some (.slice A0_2 l0_2.length c0_2) := (blk_cell BK108.out 2).trans rfl; have hcz20_3 : w19.cell? ⟨gb108, 3, none⟩ = some (.int .i64 a0_3) := (blk_cell BK108.out 3).trans rfl; have hcz20_4 : w19.cell? ⟨gb108, 4, none⟩ = some (.slice A0_4 l0_4.length c0_4) := (blk_cell BK108.out 4).trans rfl; have hcz20_5 : w19.cell? ⟨gb108, 5, none⟩ = some (.int .i64 a0_5) := (blk_cell BK108.out 5).trans rfl; have hfz20_0 := blk_frozen BK108.out 0; have hfz20_1 := blk_frozen BK108.out 1; have hfz20_2 := blk_frozen BK108.out 2; have hfz20_3 := blk_frozen BK108.out 3; have hfz20_4 := blk_frozen BK108.out 4; have hfz20_5 := blk_frozen BK108.out 5) | ((with_reducible refine gate_callee (f := 65) rfl ?_); refine goesL_ (some 7) rfl rfl Tryd.func65 (by kernel_rfl) rfl #[.int .i64 a0_5] rfl (pi81_) ?_; (with_reducible refine (ideal_Number.calls a0_5 t109 _ A2.out).mono ?_); rintro e w21 ⟨v110, rfl, ho0, hb⟩; refine ⟨_, rfl, ?_⟩; have n0_ := Aside0.mk (Kd.R_lower ho0 (below_size (by qb1_ GE108))); have n1_ := Aside0.mk (blk_below (g := gb108) (o := (oi80_)) (by qk_; exact BK108.out) hb); have n2_ := Aside0.mk (below_step (by qb1_ GE108) hb); clear BK108; clear HB; have HO111 := n0_; have BK108 := n1_; have HB := n2_; clear n0_ n1_ n2_; (try clear hb); (try clear hb2); (try clear hk); (try clear hi); (try clear ho0); obtain ⟨Ao22, co22, eo22⟩ := Kd.R_slice HO111.out; subst eo22; have hcz23_0 : w21.cell? ⟨gb108, 0, none⟩ = some (.int .i64 a0_0) := (blk_cell BK108.out 0).trans rfl; have hcz23_1 : w21.cell? ⟨gb108, 1, none⟩ = some (.int .i64 a0_1) := (blk_cell BK108.out 1).trans rfl; have hcz23_2 : w21.cell? ⟨gb108, 2, none⟩ = some (.slice A0_2 l0_2.length c0_2) := (blk_cell BK108.out 2).trans rfl; have hcz23_3 : w21.cell? ⟨gb108, 3, none⟩ = some (.int .i64 a0_3) := (blk_cell BK108.out 3).trans rfl; have hcz23_4 : w21.cell? ⟨gb108, 4, none⟩ = some (.slice A0_4 l0_4.length c0_4) := (blk_cell BK108.out 4).trans rfl; have hcz23_5 : w21.cell? ⟨gb108, 5, none⟩ = some (.int .i64 a0_5) := (blk_cell BK108.out 5).trans rfl; have hfz23_0 := blk_frozen BK108.out 0; have hfz23_1 := blk_frozen BK108.out 1; have hfz23_2 := blk_frozen BK108.out 2; have hfz23_3 := blk_frozen BK108.out 3; have hfz23_4 := blk_frozen BK108.out 4; have hfz23_5 := blk_frozen BK108.out 5) | ((with_reducible refine gate_callee (f := 24) rfl ?_); refine goesL_ (some 12) rfl rfl Tryd.func24 (by kernel_rfl) rfl #[.int .i64 a0_1] rfl (pi81_) ?_; (with_reducible refine (varint_Size.calls a0_1 t112 _ A3.out).mono ?_); rintro e w' ⟨rfl, ⟨nd, rfl⟩⟩; refine ⟨_, rfl, ?_⟩))
   go_ret
   li81_
 ·rw [if_neg c4] at H
  have c4b0 : (a0_0 == 0) = false := beq_eq_false_iff_ne.mpr c4
  have c4b1 : (a0_0 != 0) = true := bne_iff_ne.mpr c4
  have HC24 := Aside0.mk H
  clear H
  go_enter Tryd.func42, Tryd.ntmps42
  go_upto_if 30 with (first | ((with_reducible refine gate_dst (N := 1) rfl ?_); (try (refine gate_guard (by rfl) ?_; dsimp only)); refine box_event ?hg (N := 1) ?hd (cs := #[.int .i64 a0_0, .int .i64 a0_1, .slice A0_2 l0_2.length c0_2, .int .i64 a0_3, .slice A0_4 l0_4.length c0_4, .int .i64 a0_5]) (t := 58) ?hr ?_; (case hd => rfl); (case hg => rfl); (case hr => first | (go_simp; done) | (go_simp; rfl)); intro gb108 hg w25 hbox hb; have n0_ := Aside0.mk (below_step (by qc0_) hb); have n1_ := Aside0.mk (hbox); have n2_ := Aside0.mk ((pi82_)); have n3_ := Aside0.mk ((pi82_)); clear HB; have HB := n0_; have BK108 := n1_; have GW108 := n2_; have GE108 := n3_; clear n0_ n1_ n2_ n3_; clear hb hbox hg; have hcz26_0 : w25.cell? ⟨gb108, 0, none⟩ = some (.int .i64 a0_0) := (blk_cell BK108.out 0).trans rfl; have hcz26_1 : w25.cell? ⟨gb108, 1, none⟩ = some (.int .i64 a0_1) := (blk_cell BK108.out 1).trans rfl; have hcz26_2 : w25.cell? ⟨gb108, 2, none⟩ = some (.slice A0_2 l0_2.length c0_2) := (blk_cell BK108.out 2).trans rfl; have hcz26_3 : w25.cell? ⟨gb108, 3, none⟩ = some (.int .i64 a0_3) := (blk_cell BK108.out 3).trans rfl; have hcz26_4 : w25.cell? ⟨gb108, 4, none⟩ = some (.slice A0_4 l0_4.length c0_4) := (blk_cell BK108.out 4).trans rfl; have hcz26_5 : w25.cell? ⟨gb108, 5, none⟩ = some (.int .i64 a0_5) := (blk_cell BK108.out 5).trans rfl; have hfz26_0 := blk_frozen BK108.out 0; have hfz26_1 := blk_frozen BK108.out 1; have hfz26_2 := blk_frozen BK108.out 2; have hfz26_3 := blk_frozen BK108.out 3; have hfz26_4 := blk_frozen BK108.out 4; have hfz26_5 := blk_frozen BK108.out 5) | ((with_reducible refine gate_callee (f := 65) rfl ?_); refine goesL_ (some 7) rfl rfl Tryd.func65 (by kernel_rfl) rfl #[.int .i64 a0_5] rfl (pi81_) ?_; (with_reducible refine (ideal_Number.calls a0_5 t109 _ A2.out).mono ?_); rintro e w27 ⟨v110, rfl, ho0, hb⟩; refine ⟨_, rfl, ?_⟩; have n0_ := Aside0.mk (Kd.R_lower ho0 (below_size (by qb1_ GE108))); have n1_ := Aside0.mk (blk_below (g := gb108) (o := (oi80_)) (by qk_; exact BK108.out) hb); have n2_ := Aside0.mk (below_step (by qb1_ GE108) hb); clear BK108; clear HB; have HO111 := n0_; have BK108 := n1_; have HB := n2_; clear n0_ n1_ n2_; (try clear hb); (try clear hb2); (try clear hk); (try clear hi); (try clear ho0); obtain ⟨Ao28, co28, eo28⟩ := Kd.R_slice HO111.out; subst eo28; have hcz29_0 : w27.cell? ⟨gb108, 0, none⟩ = some (.int .i64 a0_0) := (blk_cell BK108.out 0).trans rfl; have hcz29_1 : w27.cell? ⟨gb108, 1, none⟩ = some (.int .i64 a0_1) := (blk_cell BK108.out 1).trans rfl; have hcz29_2 : w27.cell? ⟨gb108, 2, none⟩ = some (.slice A0_2 l0_2.length c0_2) := (blk_cell BK108.out 2).trans rfl; have hcz29_3 : w27.cell? ⟨gb108, 3, none⟩ = some (.int .i64 a0_3) := (blk_cell BK108.out 3).trans rfl; have hcz29_4 : w27.cell? ⟨gb108, 4, none⟩ = some (.slice A0_4 l0_4.length c0_4) := (blk_cell BK108.out 4).trans rfl; have hcz29_5 : w27.cell? ⟨gb108, 5, none⟩ = some (.int .i64 a0_5) := (blk_cell BK108.out 5).trans rfl; have hfz29_0 := blk_frozen BK108.out 0; have hfz29_1 := blk_frozen BK108.out 1; have hfz29_2 := blk_frozen BK108.out 2; have hfz29_3 := blk_frozen BK108.out 3; have hfz29_4 := blk_frozen BK108.out 4; have hfz29_5 := blk_frozen BK108.out 5) | ((with_reducible refine gate_callee (f := 24) rfl ?_); refine goesL_ (some 12) rfl rfl Tryd.func24 (by kernel_rfl) rfl #[.int .i64 a0_1] rfl (pi81_) ?_; (with_reducible refine (varint_Size.calls a0_1 t112 _ A3.out).mono ?_); rintro e w' ⟨rfl, ⟨nd, rfl⟩⟩; refine ⟨_, rfl, ?_⟩))
  (try simp only [Act.put, List.setIfInBounds_toArray, List.set_cons_zero, List.set_cons_succ])
  go_cut [30] (fun v30 wc => ∃ (kq : Nat) (x30_23 : Bool), v30 = .bool x30_23 ∧ Aside0 (frame_Right.j0 kq (decide ((t109.length : Int) > 0)) (decide (t112 > 0)) a0_0 x30_23 a0_0 a0_1 l0_2 a0_3 l0_4 a0_5 = some r) ∧ Aside0 (kq ≤ k) ∧ Aside0 (wc.heap[gb108]? = some (.cells #[.int .i64 a0_0, .int .i64 a0_1, (.slice A0_2 l0_2.length c0_2), .int .i64 a0_3, (.slice A0_4 l0_4.length c0_4), .int .i64 a0_5] 58 (0, 0))) ∧ Aside0 (Below w.heap.size w wc))
  case first =>
   have H := HC24.out
   clear HC24
   by_cases c30 : a0_0 = 1
   ·rw [if_pos c30] at H
    have c30b0 : (a0_0 == 1) = true := beq_iff_eq.mpr c30
    have c30b1 : (a0_0 != 1) = false := bne_eq_false_iff_eq.mpr c30
    clear c30
    (first | rw [c30b0] | (simp only [i64_w, i32_w]; rw [c30b0]) | skip)
    have H' := Aside0.mk H
    clear H
    go_wp2
    go_meet
    case rel => exact ⟨_, ((a0_0 == 1)), (by first | rfl | (simp; done) | (simp [*]; done)), H', ⟨by first | omega | exact Nat.le_refl _⟩, ⟨by qk_; exact BK108.out⟩, ⟨by qb1_ GE108⟩⟩
   ·rw [if_neg c30] at H
    have c30b0 : (a0_0 == 1) = false := beq_eq_false_iff_ne.mpr c30
    have c30b1 : (a0_0 != 1) = true := bne_iff_ne.mpr c30
    (first | rw [c30b0] | (simp only [i64_w, i32_w]; rw [c30b0]) | skip)
    have H' := Aside0.mk H
    clear H
    go_wp2
    go_meet
    case rel => exact ⟨_, ((a0_0 == 30)), (by first | rfl | (simp; done) | (simp [*]; done)), H', ⟨by first | omega | exact Nat.le_refl _⟩, ⟨by qk_; exact BK108.out⟩, ⟨by qb1_ GE108⟩⟩
  case rest =>
   clear HC24
   try clear c2
   try clear p2
   try clear c3
   try clear c4
   try clear c4b0
   try clear c4b1
   try clear c5
   try clear c5b0
   try clear c6
   try clear c6b0
   try clear c24
   try clear c30
   try clear c30b0
   try clear c30b1
   try clear hcz12_0
   try clear hcz12_1
   try clear hcz12_2
   try clear hcz12_3
   try clear hcz12_4
   try clear hcz12_5
   try clear hcz15_0
   try clear hcz15_1
   try clear hcz15_2
   try clear hcz15_3
   try clear hcz15_4
   try clear hcz15_5
   try clear hcz18_0
   try clear hcz18_1
   try clear hcz18_2
   try clear hcz18_3
   try clear hcz18_4
   try clear hcz18_5
   try clear hcz20_0
   try clear hcz20_1
   try clear hcz20_2
   try clear hcz20_3
   try clear hcz20_4
   try clear hcz20_5
   try clear hcz23_0
   try clear hcz23_1
   try clear hcz23_2
   try clear hcz23_3
   try clear hcz23_4
   try clear hcz23_5
   try clear hcz26_0
   try clear hcz26_1
   try clear hcz26_2
   try clear hcz26_3
   try clear hcz26_4
   try clear hcz26_5
   try clear hcz29_0
   try clear hcz29_1
   try clear hcz29_2
   try clear hcz29_3
   try clear hcz29_4
   try clear hcz29_5
   try clear hcz9_0
   try clear hcz9_1
   try clear hcz9_2
   try clear hcz9_3
   try clear hcz9_4
   try clear hcz9_5
   try clear hfz12_0
   try clear hfz12_1
   try clear hfz12_2
   try clear hfz12_3
   try clear hfz12_4
   try clear hfz12_5
   try clear hfz15_0
   try clear hfz15_1
   try clear hfz15_2
   try clear hfz15_3
   try clear hfz15_4
   try clear hfz15_5
   try clear hfz18_0
   try clear hfz18_1
   try clear hfz18_2
   try clear hfz18_3
   try clear hfz18_4
   try clear hfz18_5
   try clear hfz20_0
   try clear hfz20_1
   try clear hfz20_2
   try clear hfz20_3
   try clear hfz20_4
   try clear hfz20_5
   try clear hfz23_0
   try clear hfz23_1
   try clear hfz23_2
   try clear hfz23_3
   try clear hfz23_4
   try clear hfz23_5
   try clear hfz26_0
   try clear hfz26_1
   try clear hfz26_2
   try clear hfz26_3
   try clear hfz26_4
   try clear hfz26_5
   try clear hfz29_0
   try clear hfz29_1
   try clear hfz29_2
   try clear hfz29_3
   try clear hfz29_4
   try clear hfz29_5
   try clear hfz9_0
   try clear hfz9_1
   try clear hfz9_2
   try clear hfz9_3
   try clear hfz9_4
   try clear hfz9_5
   obtain ⟨kq, x30_23, rfl, HA, HJ23, BK108, HB⟩ := hcut
   cases kq with
   | zero => exact absurd HA.out (by simp [frame_Right.j0])
   | succ kj23 =>
    have H := HA.out
    clear HA
    simp only [frame_Right.j0] at H
    by_cases c31 : x30_23 = true
    ·subst c31
     have H1 : ((frame_bare.f a0_0 a0_1 l0_2 a0_3 l0_4 a0_5 false false false false).bind fun t114 => (some t114)) = some r := by rw [if_pos rfl] at H; exact H
     clear H
     have H := H1
     clear H1
     li80_
     obtain ⟨t114, A320, H⟩ := H
     replace H : (some t114) = some r := H
     have A32 := Aside0.mk A320
     clear A320
     obtain rfl := Option.some.inj H
     have hcz33_0 : wc.cell? ⟨gb108, 0, none⟩ = some (.int .i64 a0_0) := (blk_cell BK108.out 0).trans rfl
     have hcz33_1 : wc.cell? ⟨gb108, 1, none⟩ = some (.int .i64 a0_1) := (blk_cell BK108.out 1).trans rfl
     have hcz33_2 : wc.cell? ⟨gb108, 2, none⟩ = some (.slice A0_2 l0_2.length c0_2) := (blk_cell BK108.out 2).trans rfl
     have hcz33_3 : wc.cell? ⟨gb108, 3, none⟩ = some (.int .i64 a0_3) := (blk_cell BK108.out 3).trans rfl
     have hcz33_4 : wc.cell? ⟨gb108, 4, none⟩ = some (.slice A0_4 l0_4.length c0_4) := (blk_cell BK108.out 4).trans rfl
     have hcz33_5 : wc.cell? ⟨gb108, 5, none⟩ = some (.int .i64 a0_5) := (blk_cell BK108.out 5).trans rfl
     have hfz33_0 := blk_frozen BK108.out 0
     have hfz33_1 := blk_frozen BK108.out 1
     have hfz33_2 := blk_frozen BK108.out 2
     have hfz33_3 := blk_frozen BK108.out 3
     have hfz33_4 := blk_frozen BK108.out 4
     have hfz33_5 := blk_frozen BK108.out 5
     go_wp2_with (first | ((with_reducible refine gate_callee (f := 66) rfl ?_); refine goesL_ (some 34) rfl rfl Tryd.func66 (by kernel_rfl) rfl #[.agg #[.int .i64 a0_0, .int .i64 a0_1, .slice A0_2 l0_2.length c0_2, .int .i64 a0_3, .slice A0_4 l0_4.length c0_4, .int .i64 a0_5], .bool false, .bool false, .bool false, .bool false] rfl (pi81_) ?_; (with_reducible refine (frame_bare.calls a0_0 a0_1 _ _ l0_2 a0_3 _ _ l0_4 a0_5 false false false false t114 _ ?side1 ?side2 ?side3 ?side4 A32.out).mono ?_); (case side1 => repeat (first | exact (Kd.C_below HR0_2.out HB.out) | exact HR0_2.out | (with_reducible refine Kd.C_alloc ?_ _) | (with_reducible refine Kd.C_drewN ?_ _) | (with_reducible refine Kd.C_drew ?_))); (case side2 => exact HC0_2.out); (case side3 => repeat (first | exact (Kd.C_below HR0_4.out HB.out) | exact HR0_4.out | (with_reducible refine Kd.C_alloc ?_ _) | (with_reducible refine Kd.C_drewN ?_ _) | (with_reducible refine Kd.C_drew ?_))); (case side4 => exact HC0_4.out); rintro e w34 ⟨rfl, hb⟩; refine ⟨_, rfl, ?_⟩; have n0_ := Aside0.mk (blk_below (g := gb108) (o := (oi80_)) (by qk_; exact BK108.out) hb); have n1_ := Aside0.mk (below_step (by qb1_ GE108) hb); clear BK108; clear HB; have BK108 := n0_; have HB := n1_; clear n0_ n1_; (try clear hb); (try clear hb2); (try clear hk); (try clear hi)))
     go_ret
     li81_
    ·replace c31 := Bool.eq_false_iff.mpr c31
     subst c31
     have H1 : (if a0_0 = 2 then ((frame_spanned.f kj23 l0_2).bind fun t115 => (if t115 = true then ((frame_bare.f a0_0 a0_1 l0_2 a0_3 l0_4 a0_5 false true false false).bind fun t116 => (some t116)) else (some false))) else (if a0_0 = 6 then (if a0_3 ≥ 0 then (if a0_3 ≤ 1048576 then (if (l0_4.length : Int) ≥ 1 then (if (l0_4.length : Int) ≤ 1000 then ((frame_bare.f a0_0 a0_1 l0_2 a0_3 l0_4 a0_5 false false true false).bind fun t117 => (some t117)) else (some false)) else (some false)) else (some false)) else (some false)) else (if a0_0 = 7 then (if (decide ((t109.length : Int) > 0)) = true then ((frame_bare.f a0_0 a0_1 l0_2 a0_3 l0_4 a0_5 false false false true).bind fun t118 => (some t118)) else (some false)) else (if a0_0 = 8 then (if (decide ((t109.length : Int) > 0)) = true then (if (decide (t112 > 0)) = true then ((frame_bare.f a0_0 a0_1 l0_2 a0_3 l0_4 a0_5 true false false true).bind fun t119 => (some t119)) else (some false)) else (some false)) else (if a0_0 = 28 then (if (decide (t112 > 0)) = true then ((frame_bare.f a0_0 a0_1 l0_2 a0_3 l0_4 a0_5 true false false false).bind fun t120 => (some t120)) else (some false)) else (some false)))))) = some r := by rw [if_neg (show ¬ (false = true) by decide)] at H; exact H
     clear H
     have H := H1
     clear H1
     by_cases c35 : a0_0 = 2
     ·rw [if_pos c35] at H
      have c35b0 : (a0_0 == 2) = true := beq_iff_eq.mpr c35
      have c35b1 : (a0_0 != 2) = false := bne_eq_false_iff_eq.mpr c35
      clear c35
      li80_
      obtain ⟨t115, A360, H⟩ := H
      replace H : (if t115 = true then ((frame_bare.f a0_0 a0_1 l0_2 a0_3 l0_4 a0_5 false true false false).bind fun t116 => (some t116)) else (some false)) = some r := H
      have A36 := Aside0.mk A360
      clear A360
      by_cases c37 : t115 = true
      ·subst c37
       have H1 : ((frame_bare.f a0_0 a0_1 l0_2 a0_3 l0_4 a0_5 false true false false).bind fun t116 => (some t116)) = some r := by rw [if_pos rfl] at H; exact H
       clear H
       have H := H1
       clear H1
       li80_
       obtain ⟨t116, A380, H⟩ := H
       replace H : (some t116) = some r := H
       have A38 := Aside0.mk A380
       clear A380
       obtain rfl := Option.some.inj H
       have hcz39_0 : wc.cell? ⟨gb108, 0, none⟩ = some (.int .i64 a0_0) := (blk_cell BK108.out 0).trans rfl
       have hcz39_1 : wc.cell? ⟨gb108, 1, none⟩ = some (.int .i64 a0_1) := (blk_cell BK108.out 1).trans rfl
       have hcz39_2 : wc.cell? ⟨gb108, 2, none⟩ = some (.slice A0_2 l0_2.length c0_2) := (blk_cell BK108.out 2).trans rfl
       have hcz39_3 : wc.cell? ⟨gb108, 3, none⟩ = some (.int .i64 a0_3) := (blk_cell BK108.out 3).trans rfl
       have hcz39_4 : wc.cell? ⟨gb108, 4, none⟩ = some (.slice A0_4 l0_4.length c0_4) := (blk_cell BK108.out 4).trans rfl
       have hcz39_5 : wc.cell? ⟨gb108, 5, none⟩ = some (.int .i64 a0_5) := (blk_cell BK108.out 5).trans rfl
       have hfz39_0 := blk_frozen BK108.out 0
       have hfz39_1 := blk_frozen BK108.out 1
       have hfz39_2 := blk_frozen BK108.out 2
       have hfz39_3 := blk_frozen BK108.out 3
       have hfz39_4 := blk_frozen BK108.out 4
       have hfz39_5 := blk_frozen BK108.out 5
       go_wp2_with (first | ((with_reducible refine gate_callee (f := 67) rfl ?_); refine goesL_ (some 39) rfl rfl Tryd.func67 (by kernel_rfl) rfl #[.slice A0_2 l0_2.length c0_2] rfl (pi81_) ?_; (with_reducible refine (frame_spanned.calls kj23 _ _ l0_2 true _ ?side1 ?side2 A36.out).mono ?_); (case side1 => repeat (first | exact (Kd.C_below HR0_2.out HB.out) | exact HR0_2.out | (with_reducible refine Kd.C_alloc ?_ _) | (with_reducible refine Kd.C_drewN ?_ _) | (with_reducible refine Kd.C_drew ?_))); (case side2 => exact HC0_2.out); rintro e w40 ⟨rfl, hb⟩; refine ⟨_, rfl, ?_⟩; have n0_ := Aside0.mk (blk_below (g := gb108) (o := (oi80_)) (by qk_; exact BK108.out) hb); have n1_ := Aside0.mk (below_step (by qb1_ GE108) hb); clear BK108; clear HB; have BK108 := n0_; have HB := n1_; clear n0_ n1_; (try clear hb); (try clear hb2); (try clear hk); (try clear hi); have hcz41_0 : w40.cell? ⟨gb108, 0, none⟩ = some (.int .i64 a0_0) := (blk_cell BK108.out 0).trans rfl; have hcz41_1 : w40.cell? ⟨gb108, 1, none⟩ = some (.int .i64 a0_1) := (blk_cell BK108.out 1).trans rfl; have hcz41_2 : w40.cell? ⟨gb108, 2, none⟩ = some (.slice A0_2 l0_2.length c0_2) := (blk_cell BK108.out 2).trans rfl; have hcz41_3 : w40.cell? ⟨gb108, 3, none⟩ = some (.int .i64 a0_3) := (blk_cell BK108.out 3).trans rfl; have hcz41_4 : w40.cell? ⟨gb108, 4, none⟩ = some (.slice A0_4 l0_4.length c0_4) := (blk_cell BK108.out 4).trans rfl; have hcz41_5 : w40.cell? ⟨gb108, 5, none⟩ = some (.int .i64 a0_5) := (blk_cell BK108.out 5).trans rfl; have hfz41_0 := blk_frozen BK108.out 0; have hfz41_1 := blk_frozen BK108.out 1; have hfz41_2 := blk_frozen BK108.out 2; have hfz41_3 := blk_frozen BK108.out 3; have hfz41_4 := blk_frozen BK108.out 4; have hfz41_5 := blk_frozen BK108.out 5) | (go_at_call 66; (with_reducible refine (frame_bare.calls a0_0 a0_1 _ _ l0_2 a0_3 _ _ l0_4 a0_5 false true false false t116 _ ?side1 ?side2 ?side3 ?side4 A38.out).mono ?_); (case side1 => repeat (first | exact (Kd.C_below HR0_2.out HB.out) | exact HR0_2.out | (with_reducible refine Kd.C_alloc ?_ _) | (with_reducible refine Kd.C_drewN ?_ _) | (with_reducible refine Kd.C_drew ?_))); (case side2 => exact HC0_2.out); (case side3 => repeat (first | exact (Kd.C_below HR0_4.out HB.out) | exact HR0_4.out | (with_reducible refine Kd.C_alloc ?_ _) | (with_reducible refine Kd.C_drewN ?_ _) | (with_reducible refine Kd.C_drew ?_))); (case side4 => exact HC0_4.out); rintro e w42 ⟨rfl, hb⟩; have n0_ := Aside0.mk (blk_below (g := gb108) (o := (oi80_)) (by qk_; exact BK108.out) hb); have n1_ := Aside0.mk (below_step (by qb1_ GE108) hb); clear BK108; clear HB; have BK108 := n0_; have HB := n1_; clear n0_ n1_; (try clear hb); (try clear hb2); (try clear hk); (try clear hi)))
       go_ret
       li81_
      ·replace c37 := Bool.eq_false_iff.mpr c37
       subst c37
       have H1 : (some false) = some r := by rw [if_neg (show ¬ (false = true) by decide)] at H; exact H
       clear H
       have H := H1
       clear H1
       obtain rfl := Option.some.inj H
       have hcz43_0 : wc.cell? ⟨gb108, 0, none⟩ = some (.int .i64 a0_0) := (blk_cell BK108.out 0).trans rfl
       have hcz43_1 : wc.cell? ⟨gb108, 1, none⟩ = some (.int .i64 a0_1) := (blk_cell BK108.out 1).trans rfl
       have hcz43_2 : wc.cell? ⟨gb108, 2, none⟩ = some (.slice A0_2 l0_2.length c0_2) := (blk_cell BK108.out 2).trans rfl
       have hcz43_3 : wc.cell? ⟨gb108, 3, none⟩ = some (.int .i64 a0_3) := (blk_cell BK108.out 3).trans rfl
       have hcz43_4 : wc.cell? ⟨gb108, 4, none⟩ = some (.slice A0_4 l0_4.length c0_4) := (blk_cell BK108.out 4).trans rfl
       have hcz43_5 : wc.cell? ⟨gb108, 5, none⟩ = some (.int .i64 a0_5) := (blk_cell BK108.out 5).trans rfl
       have hfz43_0 := blk_frozen BK108.out 0
       have hfz43_1 := blk_frozen BK108.out 1
       have hfz43_2 := blk_frozen BK108.out 2
       have hfz43_3 := blk_frozen BK108.out 3
       have hfz43_4 := blk_frozen BK108.out 4
       have hfz43_5 := blk_frozen BK108.out 5
       go_wp2_with (first | ((with_reducible refine gate_callee (f := 67) rfl ?_); refine goesL_ (some 39) rfl rfl Tryd.func67 (by kernel_rfl) rfl #[.slice A0_2 l0_2.length c0_2] rfl (pi81_) ?_; (with_reducible refine (frame_spanned.calls kj23 _ _ l0_2 false _ ?side1 ?side2 A36.out).mono ?_); (case side1 => repeat (first | exact (Kd.C_below HR0_2.out HB.out) | exact HR0_2.out | (with_reducible refine Kd.C_alloc ?_ _) | (with_reducible refine Kd.C_drewN ?_ _) | (with_reducible refine Kd.C_drew ?_))); (case side2 => exact HC0_2.out); rintro e w44 ⟨rfl, hb⟩; refine ⟨_, rfl, ?_⟩; have n0_ := Aside0.mk (blk_below (g := gb108) (o := (oi80_)) (by qk_; exact BK108.out) hb); have n1_ := Aside0.mk (below_step (by qb1_ GE108) hb); clear BK108; clear HB; have BK108 := n0_; have HB := n1_; clear n0_ n1_; (try clear hb); (try clear hb2); (try clear hk); (try clear hi)))
       go_ret
       li81_
     ·rw [if_neg c35] at H
      have c35b0 : (a0_0 == 2) = false := beq_eq_false_iff_ne.mpr c35
      have c35b1 : (a0_0 != 2) = true := bne_iff_ne.mpr c35
      by_cases c45 : a0_0 = 6
      ·rw [if_pos c45] at H
       have c45b0 : (a0_0 == 6) = true := beq_iff_eq.mpr c45
       have c45b1 : (a0_0 != 6) = false := bne_eq_false_iff_eq.mpr c45
       clear c45
       by_cases c46 : a0_3 ≥ 0
       ·rw [if_pos c46] at H
        have c46b0 : decide (0 ≤ a0_3) = true := decide_eq_true c46
        clear c46
        by_cases c47 : a0_3 ≤ 1048576
        ·rw [if_pos c47] at H
         have c47b0 : decide (a0_3 ≤ 1048576) = true := decide_eq_true c47
         clear c47
         by_cases c48 : (l0_4.length : Int) ≥ 1
         ·rw [if_pos c48] at H
          have c48b0 : decide (1 ≤ (l0_4.length : Int)) = true := decide_eq_true c48
          have c48b1 : decide (1 ≤ l0_4.length) = true := decide_eq_true (by omega)
          clear c48
          by_cases c49 : (l0_4.length : Int) ≤ 1000
          ·rw [if_pos c49] at H
           have c49b0 : decide ((l0_4.length : Int) ≤ 1000) = true := decide_eq_true c49
           have c49b1 : decide (l0_4.length ≤ 1000) = true := decide_eq_true (by omega)
           clear c49
           li80_
           obtain ⟨t117, A500, H⟩ := H
           replace H : (some t117) = some r := H
           have A50 := Aside0.mk A500
           clear A500
           obtain rfl := Option.some.inj H
           have hcz51_0 : wc.cell? ⟨gb108, 0, none⟩ = some (.int .i64 a0_0) := (blk_cell BK108.out 0).trans rfl
           have hcz51_1 : wc.cell? ⟨gb108, 1, none⟩ = some (.int .i64 a0_1) := (blk_cell BK108.out 1).trans rfl
           have hcz51_2 : wc.cell? ⟨gb108, 2, none⟩ = some (.slice A0_2 l0_2.length c0_2) := (blk_cell BK108.out 2).trans rfl
           have hcz51_3 : wc.cell? ⟨gb108, 3, none⟩ = some (.int .i64 a0_3) := (blk_cell BK108.out 3).trans rfl
           have hcz51_4 : wc.cell? ⟨gb108, 4, none⟩ = some (.slice A0_4 l0_4.length c0_4) := (blk_cell BK108.out 4).trans rfl
           have hcz51_5 : wc.cell? ⟨gb108, 5, none⟩ = some (.int .i64 a0_5) := (blk_cell BK108.out 5).trans rfl
           have hfz51_0 := blk_frozen BK108.out 0
           have hfz51_1 := blk_frozen BK108.out 1
           have hfz51_2 := blk_frozen BK108.out 2
           have hfz51_3 := blk_frozen BK108.out 3
           have hfz51_4 := blk_frozen BK108.out 4
           have hfz51_5 := blk_frozen BK108.out 5
           go_wp2_with (first | (go_at_call 66; (with_reducible refine (frame_bare.calls a0_0 a0_1 _ _ l0_2 a0_3 _ _ l0_4 a0_5 false false true false t117 _ ?side1 ?side2 ?side3 ?side4 A50.out).mono ?_); (case side1 => repeat (first | exact (Kd.C_below HR0_2.out HB.out) | exact HR0_2.out | (with_reducible refine Kd.C_alloc ?_ _) | (with_reducible refine Kd.C_drewN ?_ _) | (with_reducible refine Kd.C_drew ?_))); (case side2 => exact HC0_2.out); (case side3 => repeat (first | exact (Kd.C_below HR0_4.out HB.out) | exact HR0_4.out | (with_reducible refine Kd.C_alloc ?_ _) | (with_reducible refine Kd.C_drewN ?_ _) | (with_reducible refine Kd.C_drew ?_))); (case side4 => exact HC0_4.out); rintro e w52 ⟨rfl, hb⟩; have n0_ := Aside0.mk (blk_below (g := gb108) (o := (oi80_)) (by qk_; exact BK108.out) hb); have n1_ := Aside0.mk (below_step (by qb1_ GE108) hb); clear BK108; clear HB; have BK108 := n0_; have HB := n1_; clear n0_ n1_; (try clear hb); (try clear hb2); (try clear hk); (try clear hi)))
           go_ret
           li81_
          ·rw [if_neg c49] at H
           have c49b0 : decide ((l0_4.length : Int) ≤ 1000) = false := decide_eq_false c49
           have c49b1 : decide (l0_4.length ≤ 1000) = false := decide_eq_false (by omega)
           clear c49
           obtain rfl := Option.some.inj H
           have hcz53_0 : wc.cell? ⟨gb108, 0, none⟩ = some (.int .i64 a0_0) := (blk_cell BK108.out 0).trans rfl
           have hcz53_1 : wc.cell? ⟨gb108, 1, none⟩ = some (.int .i64 a0_1) := (blk_cell BK108.out 1).trans rfl
           have hcz53_2 : wc.cell? ⟨gb108, 2, none⟩ = some (.slice A0_2 l0_2.length c0_2) := (blk_cell BK108.out 2).trans rfl
           have hcz53_3 : wc.cell? ⟨gb108, 3, none⟩ = some (.int .i64 a0_3) := (blk_cell BK108.out 3).trans rfl
           have hcz53_4 : wc.cell? ⟨gb108, 4, none⟩ = some (.slice A0_4 l0_4.length c0_4) := (blk_cell BK108.out 4).trans rfl
           have hcz53_5 : wc.cell? ⟨gb108, 5, none⟩ = some (.int .i64 a0_5) := (blk_cell BK108.out 5).trans rfl
           have hfz53_0 := blk_frozen BK108.out 0
           have hfz53_1 := blk_frozen BK108.out 1
           have hfz53_2 := blk_frozen BK108.out 2
           have hfz53_3 := blk_frozen BK108.out 3
           have hfz53_4 := blk_frozen BK108.out 4
           have hfz53_5 := blk_frozen BK108.out 5
           go_wp2
           go_ret
           li81_
         ·rw [if_neg c48] at H
          have c48b0 : decide (1 ≤ (l0_4.length : Int)) = false := decide_eq_false c48
          have c48b1 : decide (1 ≤ l0_4.length) = false := decide_eq_false (by omega)
          clear c48
          obtain rfl := Option.some.inj H
          have hcz54_0 : wc.cell? ⟨gb108, 0, none⟩ = some (.int .i64 a0_0) := (blk_cell BK108.out 0).trans rfl
          have hcz54_1 : wc.cell? ⟨gb108, 1, none⟩ = some (.int .i64 a0_1) := (blk_cell BK108.out 1).trans rfl
          have hcz54_2 : wc.cell? ⟨gb108, 2, none⟩ = some (.slice A0_2 l0_2.length c0_2) := (blk_cell BK108.out 2).trans rfl
          have hcz54_3 : wc.cell? ⟨gb108, 3, none⟩ = some (.int .i64 a0_3) := (blk_cell BK108.out 3).trans rfl
          have hcz54_4 : wc.cell? ⟨gb108, 4, none⟩ = some (.slice A0_4 l0_4.length c0_4) := (blk_cell BK108.out 4).trans rfl
          have hcz54_5 : wc.cell? ⟨gb108, 5, none⟩ = some (.int .i64 a0_5) := (blk_cell BK108.out 5).trans rfl
          have hfz54_0 := blk_frozen BK108.out 0
          have hfz54_1 := blk_frozen BK108.out 1
          have hfz54_2 := blk_frozen BK108.out 2
          have hfz54_3 := blk_frozen BK108.out 3
          have hfz54_4 := blk_frozen BK108.out 4
          have hfz54_5 := blk_frozen BK108.out 5
          go_wp2
          go_ret
          li81_
        ·rw [if_neg c47] at H
         have c47b0 : decide (a0_3 ≤ 1048576) = false := decide_eq_false c47
         clear c47
         obtain rfl := Option.some.inj H
         have hcz55_0 : wc.cell? ⟨gb108, 0, none⟩ = some (.int .i64 a0_0) := (blk_cell BK108.out 0).trans rfl
         have hcz55_1 : wc.cell? ⟨gb108, 1, none⟩ = some (.int .i64 a0_1) := (blk_cell BK108.out 1).trans rfl
         have hcz55_2 : wc.cell? ⟨gb108, 2, none⟩ = some (.slice A0_2 l0_2.length c0_2) := (blk_cell BK108.out 2).trans rfl
         have hcz55_3 : wc.cell? ⟨gb108, 3, none⟩ = some (.int .i64 a0_3) := (blk_cell BK108.out 3).trans rfl
         have hcz55_4 : wc.cell? ⟨gb108, 4, none⟩ = some (.slice A0_4 l0_4.length c0_4) := (blk_cell BK108.out 4).trans rfl
         have hcz55_5 : wc.cell? ⟨gb108, 5, none⟩ = some (.int .i64 a0_5) := (blk_cell BK108.out 5).trans rfl
         have hfz55_0 := blk_frozen BK108.out 0
         have hfz55_1 := blk_frozen BK108.out 1
         have hfz55_2 := blk_frozen BK108.out 2
         have hfz55_3 := blk_frozen BK108.out 3
         have hfz55_4 := blk_frozen BK108.out 4
         have hfz55_5 := blk_frozen BK108.out 5
         go_wp2
         go_ret
         li81_
       ·rw [if_neg c46] at H
        have c46b0 : decide (0 ≤ a0_3) = false := decide_eq_false c46
        clear c46
        obtain rfl := Option.some.inj H
        have hcz56_0 : wc.cell? ⟨gb108, 0, none⟩ = some (.int .i64 a0_0) := (blk_cell BK108.out 0).trans rfl
        have hcz56_1 : wc.cell? ⟨gb108, 1, none⟩ = some (.int .i64 a0_1) := (blk_cell BK108.out 1).trans rfl
        have hcz56_2 : wc.cell? ⟨gb108, 2, none⟩ = some (.slice A0_2 l0_2.length c0_2) := (blk_cell BK108.out 2).trans rfl
        have hcz56_3 : wc.cell? ⟨gb108, 3, none⟩ = some (.int .i64 a0_3) := (blk_cell BK108.out 3).trans rfl
        have hcz56_4 : wc.cell? ⟨gb108, 4, none⟩ = some (.slice A0_4 l0_4.length c0_4) := (blk_cell BK108.out 4).trans rfl
        have hcz56_5 : wc.cell? ⟨gb108, 5, none⟩ = some (.int .i64 a0_5) := (blk_cell BK108.out 5).trans rfl
        have hfz56_0 := blk_frozen BK108.out 0
        have hfz56_1 := blk_frozen BK108.out 1
        have hfz56_2 := blk_frozen BK108.out 2
        have hfz56_3 := blk_frozen BK108.out 3
        have hfz56_4 := blk_frozen BK108.out 4
        have hfz56_5 := blk_frozen BK108.out 5
        go_wp2
        go_ret
        li81_
      ·rw [if_neg c45] at H
       have c45b0 : (a0_0 == 6) = false := beq_eq_false_iff_ne.mpr c45
       have c45b1 : (a0_0 != 6) = true := bne_iff_ne.mpr c45
       by_cases c57 : a0_0 = 7
       ·rw [if_pos c57] at H
        have c57b0 : (a0_0 == 7) = true := beq_iff_eq.mpr c57
        have c57b1 : (a0_0 != 7) = false := bne_eq_false_iff_eq.mpr c57
        clear c57
        by_cases c58 : (decide ((t109.length : Int) > 0)) = true
        ·rw [if_pos c58] at H
         have c58b0 : (decide ((t109.length : Int) > 0)) = true := c58
         have c58q : 0 < t109.length := by simpa using c58b0
         clear c58
         li80_
         obtain ⟨t118, A590, H⟩ := H
         replace H : (some t118) = some r := H
         have A59 := Aside0.mk A590
         clear A590
         obtain rfl := Option.some.inj H
         have hcz60_0 : wc.cell? ⟨gb108, 0, none⟩ = some (.int .i64 a0_0) := (blk_cell BK108.out 0).trans rfl
         have hcz60_1 : wc.cell? ⟨gb108, 1, none⟩ = some (.int .i64 a0_1) := (blk_cell BK108.out 1).trans rfl
         have hcz60_2 : wc.cell? ⟨gb108, 2, none⟩ = some (.slice A0_2 l0_2.length c0_2) := (blk_cell BK108.out 2).trans rfl
         have hcz60_3 : wc.cell? ⟨gb108, 3, none⟩ = some (.int .i64 a0_3) := (blk_cell BK108.out 3).trans rfl
         have hcz60_4 : wc.cell? ⟨gb108, 4, none⟩ = some (.slice A0_4 l0_4.length c0_4) := (blk_cell BK108.out 4).trans rfl
         have hcz60_5 : wc.cell? ⟨gb108, 5, none⟩ = some (.int .i64 a0_5) := (blk_cell BK108.out 5).trans rfl
         have hfz60_0 := blk_frozen BK108.out 0
         have hfz60_1 := blk_frozen BK108.out 1
         have hfz60_2 := blk_frozen BK108.out 2
         have hfz60_3 := blk_frozen BK108.out 3
         have hfz60_4 := blk_frozen BK108.out 4
         have hfz60_5 := blk_frozen BK108.out 5
         go_wp2_with (first | (go_at_call 66; (with_reducible refine (frame_bare.calls a0_0 a0_1 _ _ l0_2 a0_3 _ _ l0_4 a0_5 false false false true t118 _ ?side1 ?side2 ?side3 ?side4 A59.out).mono ?_); (case side1 => repeat (first | exact (Kd.C_below HR0_2.out HB.out) | exact HR0_2.out | (with_reducible refine Kd.C_alloc ?_ _) | (with_reducible refine Kd.C_drewN ?_ _) | (with_reducible refine Kd.C_drew ?_))); (case side2 => exact HC0_2.out); (case side3 => repeat (first | exact (Kd.C_below HR0_4.out HB.out) | exact HR0_4.out | (with_reducible refine Kd.C_alloc ?_ _) | (with_reducible refine Kd.C_drewN ?_ _) | (with_reducible refine Kd.C_drew ?_))); (case side4 => exact HC0_4.out); rintro e w61 ⟨rfl, hb⟩; have n0_ := Aside0.mk (blk_below (g := gb108) (o := (oi80_)) (by qk_; exact BK108.out) hb); have n1_ := Aside0.mk (below_step (by qb1_ GE108) hb); clear BK108; clear HB; have BK108 := n0_; have HB := n1_; clear n0_ n1_; (try clear hb); (try clear hb2); (try clear hk); (try clear hi)))
         go_ret
         li81_
        ·rw [if_neg c58] at H
         have c58b0 : (decide ((t109.length : Int) > 0)) = false := by simpa using c58
         have c58q : t109.length = 0 := by simpa using c58b0
         clear c58
         obtain rfl := Option.some.inj H
         go_wp2
         go_ret
         li81_
       ·rw [if_neg c57] at H
        have c57b0 : (a0_0 == 7) = false := beq_eq_false_iff_ne.mpr c57
        have c57b1 : (a0_0 != 7) = true := bne_iff_ne.mpr c57
        by_cases c62 : a0_0 = 8
        ·rw [if_pos c62] at H
         have c62b0 : (a0_0 == 8) = true := beq_iff_eq.mpr c62
         have c62b1 : (a0_0 != 8) = false := bne_eq_false_iff_eq.mpr c62
         clear c62
         by_cases c63 : (decide ((t109.length : Int) > 0)) = true
         ·rw [if_pos c63] at H
          have c63b0 : (decide ((t109.length : Int) > 0)) = true := c63
          have c63q : 0 < t109.length := by simpa using c63b0
          clear c63
          by_cases c64 : (decide (t112 > 0)) = true
          ·rw [if_pos c64] at H
           have c64b0 : (decide (t112 > 0)) = true := c64
           clear c64
           li80_
           obtain ⟨t119, A650, H⟩ := H
           replace H : (some t119) = some r := H
           have A65 := Aside0.mk A650
           clear A650
           obtain rfl := Option.some.inj H
           have hcz66_0 : wc.cell? ⟨gb108, 0, none⟩ = some (.int .i64 a0_0) := (blk_cell BK108.out 0).trans rfl
           have hcz66_1 : wc.cell? ⟨gb108, 1, none⟩ = some (.int .i64 a0_1) := (blk_cell BK108.out 1).trans rfl
           have hcz66_2 : wc.cell? ⟨gb108, 2, none⟩ = some (.slice A0_2 l0_2.length c0_2) := (blk_cell BK108.out 2).trans rfl
           have hcz66_3 : wc.cell? ⟨gb108, 3, none⟩ = some (.int .i64 a0_3) := (blk_cell BK108.out 3).trans rfl
           have hcz66_4 : wc.cell? ⟨gb108, 4, none⟩ = some (.slice A0_4 l0_4.length c0_4) := (blk_cell BK108.out 4).trans rfl
           have hcz66_5 : wc.cell? ⟨gb108, 5, none⟩ = some (.int .i64 a0_5) := (blk_cell BK108.out 5).trans rfl
           have hfz66_0 := blk_frozen BK108.out 0
           have hfz66_1 := blk_frozen BK108.out 1
           have hfz66_2 := blk_frozen BK108.out 2
           have hfz66_3 := blk_frozen BK108.out 3
           have hfz66_4 := blk_frozen BK108.out 4
           have hfz66_5 := blk_frozen BK108.out 5
           go_wp2_with (first | (go_at_call 66; (with_reducible refine (frame_bare.calls a0_0 a0_1 _ _ l0_2 a0_3 _ _ l0_4 a0_5 true false false true t119 _ ?side1 ?side2 ?side3 ?side4 A65.out).mono ?_); (case side1 => repeat (first | exact (Kd.C_below HR0_2.out HB.out) | exact HR0_2.out | (with_reducible refine Kd.C_alloc ?_ _) | (with_reducible refine Kd.C_drewN ?_ _) | (with_reducible refine Kd.C_drew ?_))); (case side2 => exact HC0_2.out); (case side3 => repeat (first | exact (Kd.C_below HR0_4.out HB.out) | exact HR0_4.out | (with_reducible refine Kd.C_alloc ?_ _) | (with_reducible refine Kd.C_drewN ?_ _) | (with_reducible refine Kd.C_drew ?_))); (case side4 => exact HC0_4.out); rintro e w67 ⟨rfl, hb⟩; have n0_ := Aside0.mk (blk_below (g := gb108) (o := (oi80_)) (by qk_; exact BK108.out) hb); have n1_ := Aside0.mk (below_step (by qb1_ GE108) hb); clear BK108; clear HB; have BK108 := n0_; have HB := n1_; clear n0_ n1_; (try clear hb); (try clear hb2); (try clear hk); (try clear hi)))
           go_ret
           li81_
          ·rw [if_neg c64] at H
           have c64b0 : (decide (t112 > 0)) = false := by simpa using c64
           clear c64
           obtain rfl := Option.some.inj H
           go_wp2
           go_ret
           li81_
         ·rw [if_neg c63] at H
          have c63b0 : (decide ((t109.length : Int) > 0)) = false := by simpa using c63
          have c63q : t109.length = 0 := by simpa using c63b0
          clear c63
          obtain rfl := Option.some.inj H
          go_wp2
          go_ret
          li81_
        ·rw [if_neg c62] at H
         have c62b0 : (a0_0 == 8) = false := beq_eq_false_iff_ne.mpr c62
         have c62b1 : (a0_0 != 8) = true := bne_iff_ne.mpr c62
         by_cases c68 : a0_0 = 28
         ·rw [if_pos c68] at H
          have c68b0 : (a0_0 == 28) = true := beq_iff_eq.mpr c68
          have c68b1 : (a0_0 != 28) = false := bne_eq_false_iff_eq.mpr c68
          clear c68
          by_cases c69 : (decide (t112 > 0)) = true
          ·rw [if_pos c69] at H
           have c69b0 : (decide (t112 > 0)) = true := c69
           clear c69
           li80_
           obtain ⟨t120, A700, H⟩ := H
           replace H : (some t120) = some r := H
           have A70 := Aside0.mk A700
           clear A700
           obtain rfl := Option.some.inj H
           have hcz71_0 : wc.cell? ⟨gb108, 0, none⟩ = some (.int .i64 a0_0) := (blk_cell BK108.out 0).trans rfl
           have hcz71_1 : wc.cell? ⟨gb108, 1, none⟩ = some (.int .i64 a0_1) := (blk_cell BK108.out 1).trans rfl
           have hcz71_2 : wc.cell? ⟨gb108, 2, none⟩ = some (.slice A0_2 l0_2.length c0_2) := (blk_cell BK108.out 2).trans rfl
           have hcz71_3 : wc.cell? ⟨gb108, 3, none⟩ = some (.int .i64 a0_3) := (blk_cell BK108.out 3).trans rfl
           have hcz71_4 : wc.cell? ⟨gb108, 4, none⟩ = some (.slice A0_4 l0_4.length c0_4) := (blk_cell BK108.out 4).trans rfl
           have hcz71_5 : wc.cell? ⟨gb108, 5, none⟩ = some (.int .i64 a0_5) := (blk_cell BK108.out 5).trans rfl
           have hfz71_0 := blk_frozen BK108.out 0
           have hfz71_1 := blk_frozen BK108.out 1
           have hfz71_2 := blk_frozen BK108.out 2
           have hfz71_3 := blk_frozen BK108.out 3
           have hfz71_4 := blk_frozen BK108.out 4
           have hfz71_5 := blk_frozen BK108.out 5
           go_wp2_with (first | (go_at_call 66; (with_reducible refine (frame_bare.calls a0_0 a0_1 _ _ l0_2 a0_3 _ _ l0_4 a0_5 true false false false t120 _ ?side1 ?side2 ?side3 ?side4 A70.out).mono ?_); (case side1 => repeat (first | exact (Kd.C_below HR0_2.out HB.out) | exact HR0_2.out | (with_reducible refine Kd.C_alloc ?_ _) | (with_reducible refine Kd.C_drewN ?_ _) | (with_reducible refine Kd.C_drew ?_))); (case side2 => exact HC0_2.out); (case side3 => repeat (first | exact (Kd.C_below HR0_4.out HB.out) | exact HR0_4.out | (with_reducible refine Kd.C_alloc ?_ _) | (with_reducible refine Kd.C_drewN ?_ _) | (with_reducible refine Kd.C_drew ?_))); (case side4 => exact HC0_4.out); rintro e w72 ⟨rfl, hb⟩; have n0_ := Aside0.mk (blk_below (g := gb108) (o := (oi80_)) (by qk_; exact BK108.out) hb); have n1_ := Aside0.mk (below_step (by qb1_ GE108) hb); clear BK108; clear HB; have BK108 := n0_; have HB := n1_; clear n0_ n1_; (try clear hb); (try clear hb2); (try clear hk); (try clear hi)))
           go_ret
           li81_
          ·rw [if_neg c69] at H
           have c69b0 : (decide (t112 > 0)) = false := by simpa using c69
           clear c69
           obtain rfl := Option.some.inj H
           go_wp2
           go_ret
           li81_
         ·rw [if_neg c68] at H
          have c68b0 : (a0_0 == 28) = false := beq_eq_false_iff_ne.mpr c68
          have c68b1 : (a0_0 != 28) = true := bne_iff_ne.mpr c68
          obtain rfl := Option.some.inj H
          go_wp2
          go_ret
          li81_
end Go.Proofs.YtbcleckapamicaaDoor.QFr
namespace Go.Proofs.YtbcleckapamicaaDoor.QFr
open Go.RowKit Go.Proofs.YtbcleckapamicaaDoorW.PrintWords Go.Proofs.YtbcleckapamicaaDoorW.PrintLast Go.Proofs.YtbcleckapamicaaDoorW.PrintMore
attribute [local go_sem] max2_int min2_int max_two min_two max_three min_three max_four min_four
set_option linter.unusedVariables false
set_option linter.unusedSimpArgs false
end Go.Proofs.YtbcleckapamicaaDoor.QFr
namespace Go.Proofs.YtbcleckapamicaaDoor.QFr
open Go.RowKit Go.Proofs.YtbcleckapamicaaDoorW.PrintWords Go.Proofs.YtbcleckapamicaaDoorW.PrintLast Go.Proofs.YtbcleckapamicaaDoorW.PrintMore
attribute [local go_sem] max2_int min2_int max_two min_two max_three min_three max_four min_four
set_option linter.unusedVariables false
set_option linter.unusedSimpArgs false
open Go.Proofs.YtbcleckapamicaaDoor.QVa (shibbolethref01_Size.f shibbolethref01_Size.mono)
set_option hygiene false
local macro "pk100_" : term => `((if x136000 = 7 then (if x136000 = 0 then (shibbolethref06_Right.j1 k x3 (decide (t136 > 0)) false x136000 x136001 x136002 x136003 x136004 x136005) else (if x136000 = 8 then (shibbolethref06_Right.j1 k x3 (decide (t136 > 0)) false x136000 x136001 x136002 x136003 x136004 x136005) else (if x136000 = 28 then (shibbolethref06_Right.j1 k x3 (decide (t136 > 0)) false x136000 x136001 x136002 x136003 x136004 x136005) else (shibbolethref06_Right.j1 k x3 (decide (t136 > 0)) (x136001 != 0) x136000 x136001 x136002 x136003 x136004 x136005)))) else (if x136000 = 8 then (if x136000 = 0 then (shibbolethref06_Right.j1 k x3 (decide (t136 > 0)) false x136000 x136001 x136002 x136003 x136004 x136005) else (shibbolethref06_Right.j1 k x3 (decide (t136 > 0)) false x136000 x136001 x136002 x136003 x136004 x136005)) else (if x136005 = 0 then (if x136000 = 0 then (shibbolethref06_Right.j1 k x3 (decide (t136 > 0)) false x136000 x136001 x136002 x136003 x136004 x136005) else (if x136000 = 28 then (shibbolethref06_Right.j1 k x3 (decide (t136 > 0)) false x136000 x136001 x136002 x136003 x136004 x136005) else (shibbolethref06_Right.j1 k x3 (decide (t136 > 0)) (x136001 != 0) x136000 x136001 x136002 x136003 x136004 x136005))) else (shibbolethref06_Right.j1 k x3 (decide (t136 > 0)) true x136000 x136001 x136002 x136003 x136004 x136005)))))
local macro "pk101_" : term => `((shibbolethref06_Right.j1 k x3 (decide (t136 > 0)) true x136000 x136001 x136002 x136003 x136004 x136005))
set_option hygiene true
mutual
def shibbolethref06_Right.j0 : Nat → Bool → Int → Int → List (S102) → Int → List Int → Int → Option (Bool)
 | 0, _, _, _, _, _, _, _ => none
 | k + 1, x3, x136000, x136001, x136002, x136003, x136004, x136005 => (shibbolethref01_Size.f k x136001).bind fun t136 => (if x136000 = 2 then (if x136000 = 6 then (pk100_) else (if x136003 = 0 then (if (x136004.length : Int) > 0 then (pk101_) else (pk100_)) else (pk101_))) else (if (x136002.length : Int) > 0 then (pk101_) else (if x136000 = 6 then (pk100_) else (if x136003 = 0 then (if (x136004.length : Int) > 0 then (pk101_) else (pk100_)) else (pk101_)))))
def shibbolethref06_Right.j1 : Nat → Bool → Bool → Bool → Int → Int → List (S102) → Int → List Int → Int → Option (Bool)
 | 0, _, _, _, _, _, _, _, _, _ => none
 | k + 1, x3, x4, x78, x136000, x136001, x136002, x136003, x136004, x136005 => if x78 = true then (some false) else (if x136000 = 0 then (if x136001 ≥ 1 then (some (decide (x136001 ≤ 1200))) else (some false)) else (if x136000 = 1 then (shibbolethref06_Right.j2 k x3 x4 x136000 (x136000 == 1) x136000 x136001 x136002 x136003 x136004 x136005) else (shibbolethref06_Right.j2 k x3 x4 x136000 (x136000 == 30) x136000 x136001 x136002 x136003 x136004 x136005)))
def shibbolethref06_Right.j2 : Nat → Bool → Bool → Int → Bool → Int → Int → List (S102) → Int → List Int → Int → Option (Bool)
 | 0, _, _, _, _, _, _, _, _, _, _ => none
 | k + 1, x3, x4, x80, x91, x136000, x136001, x136002, x136003, x136004, x136005 => if x91 = true then (some true) else (if x80 = 2 then (shibbolethref06_Right.l0 k 0 x136000 x136001 x136002 x136003 x136004 x136005) else (if x80 = 6 then (if x136003 ≥ 0 then (if x136003 ≤ 1048576 then (if (x136004.length : Int) ≥ 1 then (some (decide ((x136004.length : Int) ≤ 1000))) else (some false)) else (some false)) else (some false)) else (if x80 = 7 then (some x3) else (if x80 = 8 then (if x3 = true then (some x4) else (some false)) else (if x80 = 28 then (some x4) else (some false))))))
def shibbolethref06_Right.l0 : Nat → Int → Int → Int → List (S102) → Int → List Int → Int → Option (Bool)
 | 0, _, _, _, _, _, _, _ => none
 | k + 1, x5, x136000, x136001, x136002, x136003, x136004, x136005 => if x5 < (x136002.length : Int) then (if 0 ≤ x5 then (if ((rd_T102 x136002 x5).f0) < 0 then (shibbolethref06_Right.j4 k x5 true x136000 x136001 x136002 x136003 x136004 x136005 ((rd_T102 x136002 x5).f0) ((rd_T102 x136002 x5).f1)) else (if ((rd_T102 x136002 x5).f1) < ((rd_T102 x136002 x5).f0) then (shibbolethref06_Right.j4 k x5 true x136000 x136001 x136002 x136003 x136004 x136005 ((rd_T102 x136002 x5).f0) ((rd_T102 x136002 x5).f1)) else ((shibbolethref01_Size.f k ((rd_T102 x136002 x5).f1)).bind fun t139 => (shibbolethref06_Right.j4 k x5 (t139 == 0) x136000 x136001 x136002 x136003 x136004 x136005 ((rd_T102 x136002 x5).f0) ((rd_T102 x136002 x5).f1))))) else (none)) else (if (x136002.length : Int) ≥ 1 then (some (decide ((x136002.length : Int) ≤ 32))) else (some false))
def shibbolethref06_Right.j4 : Nat → Int → Bool → Int → Int → List (S102) → Int → List Int → Int → Int → Int → Option (Bool)
 | 0, _, _, _, _, _, _, _, _, _, _ => none
 | k + 1, x5, x123, x136000, x136001, x136002, x136003, x136004, x136005, x139000, x139001 => if x123 = true then (some false) else (if x5 > 0 then (if 0 ≤ (wrap64 (x5 - 1)) then (if (wrap64 (x5 - 1)) < (x136002.length : Int) then (if ((rd_T102 x136002 (wrap64 (x5 - 1))).f0) < 2 then (some false) else (if x139001 > (wrap64 (((rd_T102 x136002 (wrap64 (x5 - 1))).f0) - 2)) then (some false) else (shibbolethref06_Right.l0 k (wrap64 (x5 + 1)) x136000 x136001 x136002 x136003 x136004 x136005))) else (none)) else (none)) else (shibbolethref06_Right.l0 k (wrap64 (x5 + 1)) x136000 x136001 x136002 x136003 x136004 x136005))
end
def shibbolethref06_Right.f (k : Nat) (a0_0 : Int) (a0_1 : Int) (l0_2 : List (S102)) (a0_3 : Int) (l0_4 : List Int) (a0_5 : Int) : Option (Bool) := if a0_5 ≥ 1 then (shibbolethref06_Right.j0 k (decide (a0_5 ≤ 65536)) a0_0 a0_1 l0_2 a0_3 l0_4 a0_5) else (shibbolethref06_Right.j0 k false a0_0 a0_1 l0_2 a0_3 l0_4 a0_5)
theorem shibbolethref06_Right.mono_l : ∀ k, (∀ y0 y1 y2 y3 y4 y5 y6, LeO (shibbolethref06_Right.j0 k y0 y1 y2 y3 y4 y5 y6) (shibbolethref06_Right.j0 (k + 1) y0 y1 y2 y3 y4 y5 y6)) ∧ (∀ y0 y1 y2 y3 y4 y5 y6 y7 y8, LeO (shibbolethref06_Right.j1 k y0 y1 y2 y3 y4 y5 y6 y7 y8) (shibbolethref06_Right.j1 (k + 1) y0 y1 y2 y3 y4 y5 y6 y7 y8)) ∧ (∀ y0 y1 y2 y3 y4 y5 y6 y7 y8 y9, LeO (shibbolethref06_Right.j2 k y0 y1 y2 y3 y4 y5 y6 y7 y8 y9) (shibbolethref06_Right.j2 (k + 1) y0 y1 y2 y3 y4 y5 y6 y7 y8 y9)) ∧ (∀ y0 y1 y2 y3 y4 y5 y6, LeO (shibbolethref06_Right.l0 k y0 y1 y2 y3 y4 y5 y6) (shibbolethref06_Right.l0 (k + 1) y0 y1 y2 y3 y4 y5 y6)) ∧ (∀ y0 y1 y2 y3 y4 y5 y6 y7 y8 y9, LeO (shibbolethref06_Right.j4 k y0 y1 y2 y3 y4 y5 y6 y7 y8 y9) (shibbolethref06_Right.j4 (k + 1) y0 y1 y2 y3 y4 y5 y6 y7 y8 y9))
 | 0 => ⟨fun _ _ _ _ _ _ _ r h => by simp [shibbolethref06_Right.j0] at h, fun _ _ _ _ _ _ _ _ _ r h => by simp [shibbolethref06_Right.j1] at h, fun _ _ _ _ _ _ _ _ _ _ r h => by simp [shibbolethref06_Right.j2] at h, fun _ _ _ _ _ _ _ r h => by simp [shibbolethref06_Right.l0] at h, fun _ _ _ _ _ _ _ _ _ _ r h => by simp [shibbolethref06_Right.j4] at h⟩
 | k + 1 => by
  obtain ⟨ih0, ih1, ih2, ih3, ih4⟩ := shibbolethref06_Right.mono_l k
  refine ⟨?_, ?_, ?_, ?_, ?_⟩
  ·intro y0 y1 y2 y3 y4 y5 y6
   unfold shibbolethref06_Right.j0
   repeat' first
   | (with_reducible exact ih0 _ _ _ _ _ _ _)
   | (with_reducible exact ih1 _ _ _ _ _ _ _ _ _)
   | (with_reducible exact ih2 _ _ _ _ _ _ _ _ _ _)
   | (with_reducible exact ih3 _ _ _ _ _ _ _)
   | (with_reducible exact ih4 _ _ _ _ _ _ _ _ _ _)
   | (with_reducible exact shibbolethref01_Size.mono _ _)
   | (with_reducible exact LeO.refl _)
   | (with_reducible exact LeO.none _)
   | (with_reducible refine LeO.ite ?_ ?_)
   | (with_reducible refine LeO.bind ?_ (fun _ => ?_))
   | exact ih0 _ _ _ _ _ _ _
   | exact ih1 _ _ _ _ _ _ _ _ _
   | exact ih2 _ _ _ _ _ _ _ _ _ _
   | exact ih3 _ _ _ _ _ _ _
   | exact ih4 _ _ _ _ _ _ _ _ _ _
   | exact shibbolethref01_Size.mono _ _
   | exact LeO.none _
   | refine LeO.ite ?_ ?_
   | refine LeO.bind ?_ (fun _ => ?_)
  ·intro y0 y1 y2 y3 y4 y5 y6 y7 y8
   unfold shibbolethref06_Right.j1
   repeat' first
   | (with_reducible exact ih0 _ _ _ _ _ _ _)
   | (with_reducible exact ih1 _ _ _ _ _ _ _ _ _)
   | (with_reducible exact ih2 _ _ _ _ _ _ _ _ _ _)
   | (with_reducible exact ih3 _ _ _ _ _ _ _)
   | (with_reducible exact ih4 _ _ _ _ _ _ _ _ _ _)
   | (with_reducible exact shibbolethref01_Size.mono _ _)
   | (with_reducible exact LeO.refl _)
   | (with_reducible exact LeO.none _)
   | (with_reducible refine LeO.ite ?_ ?_)
   | (with_reducible refine LeO.bind ?_ (fun _ => ?_))
   | exact ih0 _ _ _ _ _ _ _
   | exact ih1 _ _ _ _ _ _ _ _ _
   | exact ih2 _ _ _ _ _ _ _ _ _ _
   | exact ih3 _ _ _ _ _ _ _
   | exact ih4 _ _ _ _ _ _ _ _ _ _
   | exact shibbolethref01_Size.mono _ _
   | exact LeO.none _
   | refine LeO.ite ?_ ?_
   | refine LeO.bind ?_ (fun _ => ?_)
  ·intro y0 y1 y2 y3 y4 y5 y6 y7 y8 y9
   unfold shibbolethref06_Right.j2
   repeat' first
   | (with_reducible exact ih0 _ _ _ _ _ _ _)
   | (with_reducible exact ih1 _ _ _ _ _ _ _ _ _)
   | (with_reducible exact ih2 _ _ _ _ _ _ _ _ _ _)
   | (with_reducible exact ih3 _ _ _ _ _ _ _)
   | (with_reducible exact ih4 _ _ _ _ _ _ _ _ _ _)
   | (with_reducible exact shibbolethref01_Size.mono _ _)
   | (with_reducible exact LeO.refl _)
   | (with_reducible exact LeO.none _)
   | (with_reducible refine LeO.ite ?_ ?_)
   | (with_reducible refine LeO.bind ?_ (fun _ => ?_))
   | exact ih0 _ _ _ _ _ _ _
   | exact ih1 _ _ _ _ _ _ _ _ _
   | exact ih2 _ _ _ _ _ _ _ _ _ _
   | exact ih3 _ _ _ _ _ _ _
   | exact ih4 _ _ _ _ _ _ _ _ _ _
   | exact shibbolethref01_Size.mono _ _
   | exact LeO.none _
   | refine LeO.ite ?_ ?_
   | refine LeO.bind ?_ (fun _ => ?_)
  ·intro y0 y1 y2 y3 y4 y5 y6
   unfold shibbolethref06_Right.l0
   repeat' first
   | (with_reducible exact ih0 _ _ _ _ _ _ _)
   | (with_reducible exact ih1 _ _ _ _ _ _ _ _ _)
   | (with_reducible exact ih2 _ _ _ _ _ _ _ _ _ _)
   | (with_reducible exact ih3 _ _ _ _ _ _ _)
   | (with_reducible exact ih4 _ _ _ _ _ _ _ _ _ _)
   | (with_reducible exact shibbolethref01_Size.mono _ _)
   | (with_reducible exact LeO.refl _)
   | (with_reducible exact LeO.none _)
   | (with_reducible refine LeO.ite ?_ ?_)
   | (with_reducible refine LeO.bind ?_ (fun _ => ?_))
   | exact ih0 _ _ _ _ _ _ _
   | exact ih1 _ _ _ _ _ _ _ _ _
   | exact ih2 _ _ _ _ _ _ _ _ _ _
   | exact ih3 _ _ _ _ _ _ _
   | exact ih4 _ _ _ _ _ _ _ _ _ _
   | exact shibbolethref01_Size.mono _ _
   | exact LeO.none _
   | refine LeO.ite ?_ ?_
   | refine LeO.bind ?_ (fun _ => ?_)
  ·intro y0 y1 y2 y3 y4 y5 y6 y7 y8 y9
   unfold shibbolethref06_Right.j4
   repeat' first
   | (with_reducible exact ih0 _ _ _ _ _ _ _)
   | (with_reducible exact ih1 _ _ _ _ _ _ _ _ _)
   | (with_reducible exact ih2 _ _ _ _ _ _ _ _ _ _)
   | (with_reducible exact ih3 _ _ _ _ _ _ _)
   | (with_reducible exact ih4 _ _ _ _ _ _ _ _ _ _)
   | (with_reducible exact shibbolethref01_Size.mono _ _)
   | (with_reducible exact LeO.refl _)
   | (with_reducible exact LeO.none _)
   | (with_reducible refine LeO.ite ?_ ?_)
   | (with_reducible refine LeO.bind ?_ (fun _ => ?_))
   | exact ih0 _ _ _ _ _ _ _
   | exact ih1 _ _ _ _ _ _ _ _ _
   | exact ih2 _ _ _ _ _ _ _ _ _ _
   | exact ih3 _ _ _ _ _ _ _
   | exact ih4 _ _ _ _ _ _ _ _ _ _
   | exact shibbolethref01_Size.mono _ _
   | exact LeO.none _
   | refine LeO.ite ?_ ?_
   | refine LeO.bind ?_ (fun _ => ?_)
theorem shibbolethref06_Right.mono : ∀ a0 a1 a2 a3 a4 a5 k, LeO (shibbolethref06_Right.f k a0 a1 a2 a3 a4 a5) (shibbolethref06_Right.f (k + 1) a0 a1 a2 a3 a4 a5) := by
 intro a0 a1 a2 a3 a4 a5 k
 obtain ⟨ih0, ih1, ih2, ih3, ih4⟩ := shibbolethref06_Right.mono_l k
 unfold shibbolethref06_Right.f
 repeat' first
   | (with_reducible exact ih0 _ _ _ _ _ _ _)
   | (with_reducible exact ih1 _ _ _ _ _ _ _ _ _)
   | (with_reducible exact ih2 _ _ _ _ _ _ _ _ _ _)
   | (with_reducible exact ih3 _ _ _ _ _ _ _)
   | (with_reducible exact ih4 _ _ _ _ _ _ _ _ _ _)
   | (with_reducible exact shibbolethref01_Size.mono _ _)
   | (with_reducible exact LeO.refl _)
   | (with_reducible exact LeO.none _)
   | (with_reducible refine LeO.ite ?_ ?_)
   | (with_reducible refine LeO.bind ?_ (fun _ => ?_))
   | exact ih0 _ _ _ _ _ _ _
   | exact ih1 _ _ _ _ _ _ _ _ _
   | exact ih2 _ _ _ _ _ _ _ _ _ _
   | exact ih3 _ _ _ _ _ _ _
   | exact ih4 _ _ _ _ _ _ _ _ _ _
   | exact shibbolethref01_Size.mono _ _
   | exact LeO.none _
   | refine LeO.ite ?_ ?_
   | refine LeO.bind ?_ (fun _ => ?_)
end Go.Proofs.YtbcleckapamicaaDoor.QFr
