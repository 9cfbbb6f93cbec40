/- A part of the proof of the law HeaderWrites: QHex8. -/
import Derived.Test.YtbcleckapamicaaDoorZHw02
import Derived.Test.YtbcleckapamicaaDoorZHw11
import Derived.Test.YtbcleckapamicaaDoorZHw04
import Derived.Test.YtbcleckapamicaaDoorZHw05
namespace Go.Proofs.YtbcleckapamicaaDoor.QHe
open Go.RowKit Go.Proofs.YtbcleckapamicaaDoorW.PrintWords Go.Proofs.YtbcleckapamicaaDoorW.PrintLast Go.Proofs.YtbcleckapamicaaDoorW.PrintMore
attribute [local go_sem] max2_int min2_int max_two min_two max_three min_three max_four min_four   -- for this text's walks alone
set_option linter.unusedVariables false
set_option linter.unusedSimpArgs false
open Go.Proofs.YtbcleckapamicaaDoor.Gv (TB TB.below TB.alloc TB.drew TB.drewN)
open Go.Proofs.YtbcleckapamicaaDoor.Gw (slices_Concat_byte_byte.f slices_Concat_byte_byte.calls)
open Go.Proofs.YtbcleckapamicaaDoor.QVa (varint_Append.f varint_Append.calls varint_Append.mono varint_Give.f varint_Give.calls varint_Give.mono shibbolethref01_Size.f shibbolethref01_Size.calls shibbolethref01_Size.mono shibbolethref01_Bytes.f shibbolethref01_Bytes.calls shibbolethref01_Bytes.mono shibbolethref01_Give.f shibbolethref01_Give.calls shibbolethref01_Give.mono)
set_option hygiene false in
local macro "om120_" : term => `(.cells #[.int .i64 a0_0, .int .i64 a0_1, .slice A0_2 l0_2.length c0_2, .slice A0_3 l0_3.length c0_3, .slice A0_4 l0_4.length c0_4, .int .i64 a0_5, .int .i64 a0_6, .int .i64 a0_7] 44 (0, 0))
set_option hygiene false in
local macro "lm120_" : tactic => `(tactic| (refine Kd.R_lit_step (Kd.int .u8) _ 5 ?hg (N := 39) ?hd (xs := ([(wrap64 ((wrap64 ((wrap64 (192 + (wrap64 (16 * a0_0)))) + a0_7)) - 1)) % 256] : List Int)) (inner := [.int .u8 ((wrap64 ((wrap64 ((wrap64 (192 + (wrap64 (16 * a0_0)))) + a0_7)) - 1)) % 256)]) (ok := fun _ => True) (okp := fun _ => True) ?hr ?hp (fun _ hk => hk) trivial (Below.refl _ _) (Nat.le_refl _) (by simp) ?_; (case hd => rfl); (case hg => rfl); (case hr => first | (go_simp; done) | (go_simp; rfl)); (case hp => exact (Reps.one (show Kd.M (Kd.int .u8) _ _ _ ((wrap64 ((wrap64 ((wrap64 (192 + (wrap64 (16 * a0_0)))) + a0_7)) - 1)) % 256) [.int .u8 ((wrap64 ((wrap64 ((wrap64 (192 + (wrap64 (16 * a0_0)))) + a0_7)) - 1)) % 256)] from rfl) (Reps.none _ _)))))
set_option hygiene false in
local macro "lm121_" : tactic => `(tactic| (have n1_ := Aside0.mk (blk_below (g := gb205) (o := (om120_)) (by qk_; exact BK205.out) hb)))
set_option hygiene false in
local macro "lm122_" : tactic => `(tactic| (refine hK.out _ _ ⟨(blk_cell BK205.out 0).trans rfl, (blk_cell BK205.out 1).trans rfl, (blk_cell BK205.out 2).trans rfl, (blk_cell BK205.out 3).trans rfl, (blk_cell BK205.out 4).trans rfl, (blk_cell BK205.out 5).trans rfl, (blk_cell BK205.out 6).trans rfl, (blk_cell BK205.out 7).trans rfl⟩ (fun hHeld => ?_)))
set_option hygiene false in
local macro "lm123_" : tactic => `(tactic| (refine goes_ Tryd.func64 (by kernel_rfl) rfl #[.int .i64 a0_1, .int .i64 4] (by rfl) rfl rfl (by (try simp only [List.map_toArray, List.map_cons, List.map_nil]); first | done | rfl | (simp only [List.length_drop, List.length_take]; rfl)) ?_))
set_option hygiene false in
local macro "lm124_" : tactic => `(tactic| (have n2_ := Aside0.mk (blk_below (g := gb205) (o := (om120_)) (by qk_; exact BK205.out) hb)))
set_option hygiene false in
local macro "lm125_" : tactic => `(tactic| (exact norm_ (by simp only [putAll, Act.put, List.setIfInBounds_toArray, List.set_cons_zero, List.set_cons_succ]) (hCont (v219, v222) _ ⟨hHeld, (by qR_; exact Kd.R_mono HO220.out (fun _ hk => hk.2)), (by qR_; exact Kd.R_mono HO223.out (fun _ hk => hk.2)), (by qk_; exact BK205.out), (by qb1_ GE205)⟩)))
set_option hygiene false in
local macro "lm126_" : tactic => `(tactic| ((case aF => exact (fun k_ hk => Kd.fresh' (Kd.R_lt (by qR_; exact HO223.out)) k_ hk))))
set_option hygiene false in
local macro "lm127_" : tactic => `(tactic| (refine hK.out _ _ ⟨(blk_cell (blk_alloc BK205.out _) 0).trans rfl, (blk_cell (blk_alloc BK205.out _) 1).trans rfl, (blk_cell (blk_alloc BK205.out _) 2).trans rfl, (blk_cell (blk_alloc BK205.out _) 3).trans rfl, (blk_cell (blk_alloc BK205.out _) 4).trans rfl, (blk_cell (blk_alloc BK205.out _) 5).trans rfl, (blk_cell (blk_alloc BK205.out _) 6).trans rfl, (blk_cell (blk_alloc BK205.out _) 7).trans rfl⟩ (fun hHeld => ?_)))
set_option hygiene false in
local macro "lm128_" : tactic => `(tactic| (have n1_ := Aside0.mk (Kd.R_after (ok := (fun _ => True)) (by qR_; exact HO223.out) hg hat)))
set_option hygiene false in
local macro "lm129_" : tactic => `(tactic| (refine pure_ (i := 10) (N := some 6) (v := ?_) (a' := ?_) #[true, true, true, true, true, true, true, true, true, true, true] rfl rfl (any_of HT_.out (by kernel_rfl)) (fun _ _ _ h => h) (Or.inl ⟨by rfl, ?_⟩) ?_ ?_))
def shibbolethref05_Write.f (k : Nat) (a0_0 : Int) (a0_1 : Int) (l0_2 : List Int) (l0_3 : List Int) (l0_4 : List Int) (a0_5 : Int) (a0_6 : Int) (a0_7 : Int) (a1 : Int) : Option (List Int) := if a0_0 = 3 then ((some (([(wrap64 ((wrap64 ((wrap64 (64 + (wrap64 (4 * a0_5)))) + a0_7)) - 1)) % 256] : List Int) : List Int)).bind fun y206 => (if y206.length + l0_2.length < 140737488355328 then ((some (y206 ++ l0_2 : List Int)).bind fun y209 => ((shibbolethref05_Big.f k a0_6 a0_7).bind fun t212 => (if y209.length + t212.length < 140737488355328 then (some (y209 ++ t212)) else (none)))) else (none))) else ((some (([(wrap64 ((wrap64 ((wrap64 (192 + (wrap64 (16 * a0_0)))) + a0_7)) - 1)) % 256] : List Int) : List Int)).bind fun y218 => ((shibbolethref05_Big.f k a0_1 4).bind fun t221 => (if y218.length + t221.length < 140737488355328 then ((some (y218 ++ t221 : List Int)).bind fun y224 => (if y224.length < 140737488355328 then ((some (y224 ++ [((l0_2.length : Int)) % 256] : List Int)).bind fun y227 => (if y227.length + l0_2.length < 140737488355328 then ((some (y227 ++ l0_2 : List Int)).bind fun y230 => (if y230.length < 140737488355328 then ((some (y230 ++ [((l0_3.length : Int)) % 256] : List Int)).bind fun y233 => (if y233.length + l0_3.length < 140737488355328 then ((some (y233 ++ l0_3 : List Int)).bind fun y236 => (if a0_0 = 0 then ((shibbolethref01_Give.f k l0_4).bind fun t239 => (if y236.length + t239.length < 140737488355328 then ((some (y236 ++ t239 : List Int)).bind fun y242 => ((shibbolethref01_Bytes.f k (wrap64 (a0_7 + a1))).bind fun t245 => (if y242.length + t245.length < 140737488355328 then ((some (y242 ++ t245 : List Int)).bind fun y248 => ((shibbolethref05_Big.f k a0_6 a0_7).bind fun t251 => (if y248.length + t251.length < 140737488355328 then (some (y248 ++ t251)) else (none)))) else (none)))) else (none))) else ((shibbolethref01_Bytes.f k (wrap64 (a0_7 + a1))).bind fun t257 => (if y236.length + t257.length < 140737488355328 then ((some (y236 ++ t257 : List Int)).bind fun y260 => ((shibbolethref05_Big.f k a0_6 a0_7).bind fun t263 => (if y260.length + t263.length < 140737488355328 then (some (y260 ++ t263)) else (none)))) else (none))))) else (none))) else (none))) else (none))) else (none))) else (none))))
theorem shibbolethref05_Write.mono : ∀ a0 a1 a2 a3 a4 a5 a6 a7 a8 k, LeO (shibbolethref05_Write.f k a0 a1 a2 a3 a4 a5 a6 a7 a8) (shibbolethref05_Write.f (k + 1) a0 a1 a2 a3 a4 a5 a6 a7 a8) := by
 intro a0 a1 a2 a3 a4 a5 a6 a7 a8 k
 unfold shibbolethref05_Write.f
 repeat' first
   | (with_reducible exact shibbolethref01_Bytes.mono _ _)
   | (with_reducible exact shibbolethref01_Give.mono _ _)
   | (with_reducible exact shibbolethref05_Big.mono _ _ _)
   | (with_reducible exact LeO.refl _)
   | (with_reducible exact LeO.none _)
   | (with_reducible refine LeO.ite ?_ ?_)
   | (with_reducible refine LeO.bind ?_ (fun _ => ?_))
   | exact shibbolethref01_Bytes.mono _ _
   | exact shibbolethref01_Give.mono _ _
   | exact shibbolethref05_Big.mono _ _ _
   | exact LeO.none _
   | refine LeO.ite ?_ ?_
   | refine LeO.bind ?_ (fun _ => ?_)
def shibbolethref05_Write.T4 : Bool × List (List Nat × List Nat) := (true, [([], []), ([0], [0]), ([1], [1]), ([2], [2]), ([], []), ([4], [4]), ([3, 5], [3, 5]), ([6], [6]), ([7], [7]), ([8], [8]), ([], []), ([10], [10]), ([11], [11]), ([9, 12, 12], [9, 12]), ([13, 13, 0, 1, 2, 3, 4, 5, 6, 7, 8, 9, 10, 11, 12, 13], [13])])
def shibbolethref05_Write.B4 : List Nat := [0, 1, 3, 7, 0, 16, 63, 127, 255, 511, 0, 1024, 3072, 8191, 16383]
theorem shibbolethref05_Write.tab4 : rtab .any (opsOf Tryd.f40 4) = shibbolethref05_Write.T4 := by kernel_rfl
theorem shibbolethref05_Write.bits4 : waitsOk shibbolethref05_Write.T4.2 shibbolethref05_Write.B4 = true := by kernel_rfl
def shibbolethref05_Write.T5 : Bool × List (List Nat × List Nat) := (true, [([], []), ([], []), ([1], [1]), ([2], [2]), ([3], [3]), ([4], [4]), ([0, 5], [0, 5]), ([], []), ([7], [7]), ([6, 8, 6], [6, 8]), ([9, 9, 0, 1, 2, 3, 4, 5, 6, 7, 8, 9], [0, 9])])
def shibbolethref05_Write.B5 : List Nat := [0, 0, 2, 6, 14, 30, 63, 0, 128, 511, 1023]
theorem shibbolethref05_Write.tab5 : rtab .any (opsOf Tryd.f40 5) = shibbolethref05_Write.T5 := by kernel_rfl
theorem shibbolethref05_Write.bits5 : waitsOk shibbolethref05_Write.T5.2 shibbolethref05_Write.B5 = true := by kernel_rfl
def shibbolethref05_Write.T6 : Bool × List (List Nat × List Nat) := (true, [([], []), ([], []), ([1], [1]), ([2], [2]), ([3], [3]), ([4], [4]), ([0, 5], [0, 5]), ([], []), ([7], [7]), ([6, 8, 6], [6, 8]), ([9, 9, 0, 1, 2, 3, 4, 5, 6, 7, 8, 9], [0, 9])])
def shibbolethref05_Write.B6 : List Nat := [0, 0, 2, 6, 14, 30, 63, 0, 128, 511, 1023]
theorem shibbolethref05_Write.tab6 : rtab .any (opsOf Tryd.f40 6) = shibbolethref05_Write.T6 := by kernel_rfl
theorem shibbolethref05_Write.bits6 : waitsOk shibbolethref05_Write.T6.2 shibbolethref05_Write.B6 = true := by kernel_rfl
set_option maxHeartbeats 8000000 in
set_option maxRecDepth 100000 in
theorem shibbolethref05_Write.calls (k : Nat) (a0_0 : Int) (a0_1 : Int) (A0_2 : Option Addr) (c0_2 : Nat) (l0_2 : List Int) (A0_3 : Option Addr) (c0_3 : Nat) (l0_3 : List Int) (A0_4 : Option Addr) (c0_4 : Nat) (l0_4 : List Int) (a0_5 : Int) (a0_6 : Int) (a0_7 : Int) (a1 : Int) (r : List Int) (w : World) (hr0_2 : Kd.C (Kd.int .u8) w A0_2 l0_2.length l0_2) (hc0_2 : l0_2.length ≤ c0_2) (hr0_3 : Kd.C (Kd.int .u8) w A0_3 l0_3.length l0_3) (hc0_3 : l0_3.length ≤ c0_3) (hr0_4 : Kd.C (Kd.int .u8) w A0_4 l0_4.length l0_4) (hc0_4 : l0_4.length ≤ c0_4) (h : shibbolethref05_Write.f k a0_0 a0_1 l0_2 l0_3 l0_4 a0_5 a0_6 a0_7 a1 = some r) :
  Calls Tryd.prog 40 #[.agg #[.int .i64 a0_0, .int .i64 a0_1, .slice A0_2 l0_2.length c0_2, .slice A0_3 l0_3.length c0_3, .slice A0_4 l0_4.length c0_4, .int .i64 a0_5, .int .i64 a0_6, .int .i64 a0_7], .int .i64 a1] w fun e w' => ∃ v0_ : Value, e = .returned (v0_) ∧ Kd.R (Kd.int .u8) 5 w' w.heap.size (fun _ => True) v0_ r ∧ Below w.heap.size w w' := by
 have hu44 := Tryd.underlying44
 have HR0_2 := Aside0.mk hr0_2
 have HC0_2 := Aside0.mk hc0_2
 clear hr0_2 hc0_2
 have HR0_3 := Aside0.mk hr0_3
 have HC0_3 := Aside0.mk hc0_3
 clear hr0_3 hc0_3
 have HR0_4 := Aside0.mk hr0_4
 have HC0_4 := Aside0.mk hc0_4
 clear hr0_4 hc0_4
 have HB := Aside0.mk (Below.refl w.heap.size w)
 have H : (if a0_0 = 3 then ((some (([(wrap64 ((wrap64 ((wrap64 (64 + (wrap64 (4 * a0_5)))) + a0_7)) - 1)) % 256] : List Int) : List Int)).bind fun y206 => (if y206.length + l0_2.length < 140737488355328 then ((some (y206 ++ l0_2 : List Int)).bind fun y209 => ((shibbolethref05_Big.f k a0_6 a0_7).bind fun t212 => (if y209.length + t212.length < 140737488355328 then (some (y209 ++ t212)) else (none)))) else (none))) else ((some (([(wrap64 ((wrap64 ((wrap64 (192 + (wrap64 (16 * a0_0)))) + a0_7)) - 1)) % 256] : List Int) : List Int)).bind fun y218 => ((shibbolethref05_Big.f k a0_1 4).bind fun t221 => (if y218.length + t221.length < 140737488355328 then ((some (y218 ++ t221 : List Int)).bind fun y224 => (if y224.length < 140737488355328 then ((some (y224 ++ [((l0_2.length : Int)) % 256] : List Int)).bind fun y227 => (if y227.length + l0_2.length < 140737488355328 then ((some (y227 ++ l0_2 : List Int)).bind fun y230 => (if y230.length < 140737488355328 then ((some (y230 ++ [((l0_3.length : Int)) % 256] : List Int)).bind fun y233 => (if y233.length + l0_3.length < 140737488355328 then ((some (y233 ++ l0_3 : List Int)).bind fun y236 => (if a0_0 = 0 then ((shibbolethref01_Give.f k l0_4).bind fun t239 => (if y236.length + t239.length < 140737488355328 then ((some (y236 ++ t239 : List Int)).bind fun y242 => ((shibbolethref01_Bytes.f k (wrap64 (a0_7 + a1))).bind fun t245 => (if y242.length + t245.length < 140737488355328 then ((some (y242 ++ t245 : List Int)).bind fun y248 => ((shibbolethref05_Big.f k a0_6 a0_7).bind fun t251 => (if y248.length + t251.length < 140737488355328 then (some (y248 ++ t251)) else (none)))) else (none)))) else (none))) else ((shibbolethref01_Bytes.f k (wrap64 (a0_7 + a1))).bind fun t257 => (if y236.length + t257.length < 140737488355328 then ((some (y236 ++ t257 : List Int)).bind fun y260 => ((shibbolethref05_Big.f k a0_6 a0_7).bind fun t263 => (if y260.length + t263.length < 140737488355328 then (some (y260 ++ t263)) else (none)))) else (none))))) else (none))) else (none))) else (none))) else (none))) else (none))))) = some r := h
 clear h
 by_cases c3 : a0_0 = 3
 ·rw [if_pos c3] at H
  have c3b0 : (a0_0 == 3) = true := beq_iff_eq.mpr c3
  have c3b1 : (a0_0 != 3) = false := bne_eq_false_iff_eq.mpr c3
  clear c3
  obtain ⟨y206, hy206⟩ : ∃ y_ : List Int, y_ = (([(wrap64 ((wrap64 ((wrap64 (64 + (wrap64 (4 * a0_5)))) + a0_7)) - 1)) % 256] : List Int)) := ⟨_, rfl⟩
  replace H : (if y206.length + l0_2.length < 140737488355328 then ((some (y206 ++ l0_2 : List Int)).bind fun y209 => ((shibbolethref05_Big.f k a0_6 a0_7).bind fun t212 => (if y209.length + t212.length < 140737488355328 then (some (y209 ++ t212)) else (none)))) else (none)) = some r := by first | (rw [hy206]; with_reducible exact H) | (have H2_ := (Option.bind_some _ _).symm.trans H; rw [hy206]; with_reducible exact H2_) | (have H2_ := (Option.bind_some _ _).symm.trans H; with_reducible exact H2_) | with_reducible exact H | (rw [hy206]; exact H) | exact H
  have Ny206 := Aside0.mk hy206
  clear hy206
  by_cases c4 : y206.length + l0_2.length < 140737488355328
  ·rw [if_pos c4] at H
   have LMc4 := Aside0.mk c4
   clear c4
   obtain ⟨y209, hy209⟩ : ∃ y_ : List Int, y_ = (y206 ++ l0_2) := ⟨_, rfl⟩
   replace H : ((shibbolethref05_Big.f k a0_6 a0_7).bind fun t212 => (if y209.length + t212.length < 140737488355328 then (some (y209 ++ t212)) else (none))) = some r := by first | (rw [hy209]; with_reducible exact H) | (have H2_ := (Option.bind_some _ _).symm.trans H; rw [hy209]; with_reducible exact H2_) | (have H2_ := (Option.bind_some _ _).symm.trans H; with_reducible exact H2_) | with_reducible exact H | (rw [hy209]; exact H) | exact H
   have Ny209 := Aside0.mk hy209
   clear hy209
   replace H := Option.bind_eq_some_iff.mp H
   obtain ⟨t212, A50, H⟩ := H
   replace H : (if y209.length + t212.length < 140737488355328 then (some (y209 ++ t212)) else (none)) = some r := H
   have A5 := Aside0.mk A50
   clear A50
   by_cases c6 : y209.length + t212.length < 140737488355328
   ·rw [if_pos c6] at H
    have LMc6 := Aside0.mk c6
    clear c6
    obtain ⟨y215, hy215⟩ : ∃ y_ : List Int, y_ = (y209 ++ t212) := ⟨_, rfl⟩
    replace H : (some y215) = some r := by first | (rw [hy215]; with_reducible exact H) | (have H2_ := (Option.bind_some _ _).symm.trans H; rw [hy215]; with_reducible exact H2_) | (have H2_ := (Option.bind_some _ _).symm.trans H; with_reducible exact H2_) | with_reducible exact H | (rw [hy215]; exact H) | exact H
    have Ny215 := Aside0.mk hy215
    clear hy215
    obtain rfl := Option.some.inj H
    go_enter Tryd.func40, Tryd.ntmps40
    go_wp2_with (first | ((with_reducible refine gate_dst (N := 2) rfl ?_); refine box_event ?hg (N := 2) ?hd (cs := #[.int .i64 a0_0, .int .i64 a0_1, .slice A0_2 l0_2.length c0_2, .slice A0_3 l0_3.length c0_3, .slice A0_4 l0_4.length c0_4, .int .i64 a0_5, .int .i64 a0_6, .int .i64 a0_7]) (t := 44) ?hr ?_; (case hd => rfl); (case hg => rfl); (case hr => first | (go_simp; done) | (go_simp; rfl)); intro gb205 hg w7 hbox hb; have n0_ := Aside0.mk (below_step (by qc0_) hb); have n1_ := Aside0.mk (hbox); have n2_ := Aside0.mk ((by rw [hg]; exact (below_size (by qc0_)) : w.heap.size ≤ gb205)); have n3_ := Aside0.mk ((by rw [hg]; exact (below_size (by qc0_)) : w.heap.size ≤ gb205)); clear HB; have HB := n0_; have BK205 := n1_; have GW205 := n2_; have GE205 := n3_; clear n0_ n1_ n2_ n3_; clear hb hbox hg; have hcz8_0 : w7.cell? ⟨gb205, 0, none⟩ = some (.int .i64 a0_0) := (blk_cell BK205.out 0).trans rfl; have hcz8_1 : w7.cell? ⟨gb205, 1, none⟩ = some (.int .i64 a0_1) := (blk_cell BK205.out 1).trans rfl; have hcz8_2 : w7.cell? ⟨gb205, 2, none⟩ = some (.slice A0_2 l0_2.length c0_2) := (blk_cell BK205.out 2).trans rfl; have hcz8_3 : w7.cell? ⟨gb205, 3, none⟩ = some (.slice A0_3 l0_3.length c0_3) := (blk_cell BK205.out 3).trans rfl; have hcz8_4 : w7.cell? ⟨gb205, 4, none⟩ = some (.slice A0_4 l0_4.length c0_4) := (blk_cell BK205.out 4).trans rfl; have hcz8_5 : w7.cell? ⟨gb205, 5, none⟩ = some (.int .i64 a0_5) := (blk_cell BK205.out 5).trans rfl; have hcz8_6 : w7.cell? ⟨gb205, 6, none⟩ = some (.int .i64 a0_6) := (blk_cell BK205.out 6).trans rfl; have hcz8_7 : w7.cell? ⟨gb205, 7, none⟩ = some (.int .i64 a0_7) := (blk_cell BK205.out 7).trans rfl; have hfz8_0 := blk_frozen BK205.out 0; have hfz8_1 := blk_frozen BK205.out 1; have hfz8_2 := blk_frozen BK205.out 2; have hfz8_3 := blk_frozen BK205.out 3; have hfz8_4 := blk_frozen BK205.out 4; have hfz8_5 := blk_frozen BK205.out 5; have hfz8_6 := blk_frozen BK205.out 6; have hfz8_7 := blk_frozen BK205.out 7) | ((with_reducible refine gate_dst (N := 19) rfl ?_); refine Kd.R_lit (Kd.int .u8) _ 5 ?hg (N := 19) ?hd (xs := ([(wrap64 ((wrap64 ((wrap64 (64 + (wrap64 (4 * a0_5)))) + a0_7)) - 1)) % 256] : List Int)) (inner := [.int .u8 ((wrap64 ((wrap64 ((wrap64 (64 + (wrap64 (4 * a0_5)))) + a0_7)) - 1)) % 256)]) (ok := fun _ => True) (okp := fun _ => True) ?hr ?hp (fun _ hk => hk) trivial (Below.refl _ _) (Nat.le_refl _) (by simp) ?_; (case hd => rfl); (case hg => rfl); (case hr => first | (go_simp; done) | (go_simp; rfl)); (case hp => exact (Reps.one (show Kd.M (Kd.int .u8) _ _ _ ((wrap64 ((wrap64 ((wrap64 (64 + (wrap64 (4 * a0_5)))) + a0_7)) - 1)) % 256) [.int .u8 ((wrap64 ((wrap64 ((wrap64 (64 + (wrap64 (4 * a0_5)))) + a0_7)) - 1)) % 256)] from rfl) (Reps.none _ _))); intro v207 w9 ho10 hb hg_ hnew_; clear hg_ hnew_; (first | rw [← Ny206.out] at ho10 | (simp only [Int.reduceToNat] at ho10; rw [← Ny206.out] at ho10)); have n0_ := Aside0.mk (Kd.R_lower ho10 (below_size (by qb1_ GE205))); have n1_ := Aside0.mk (blk_below (g := gb205) (o := (om120_)) (by qk_; exact BK205.out) hb); have n2_ := Aside0.mk (below_step (by qb1_ GE205) hb); clear BK205; clear HB; have HO208 := n0_; have BK205 := n1_; have HB := n2_; clear n0_ n1_ n2_; clear hb ho10; have hcz11_0 : w9.cell? ⟨gb205, 0, none⟩ = some (.int .i64 a0_0) := (blk_cell BK205.out 0).trans rfl; have hcz11_1 : w9.cell? ⟨gb205, 1, none⟩ = some (.int .i64 a0_1) := (blk_cell BK205.out 1).trans rfl; have hcz11_2 : w9.cell? ⟨gb205, 2, none⟩ = some (.slice A0_2 l0_2.length c0_2) := (blk_cell BK205.out 2).trans rfl; have hcz11_3 : w9.cell? ⟨gb205, 3, none⟩ = some (.slice A0_3 l0_3.length c0_3) := (blk_cell BK205.out 3).trans rfl; have hcz11_4 : w9.cell? ⟨gb205, 4, none⟩ = some (.slice A0_4 l0_4.length c0_4) := (blk_cell BK205.out 4).trans rfl; have hcz11_5 : w9.cell? ⟨gb205, 5, none⟩ = some (.int .i64 a0_5) := (blk_cell BK205.out 5).trans rfl; have hcz11_6 : w9.cell? ⟨gb205, 6, none⟩ = some (.int .i64 a0_6) := (blk_cell BK205.out 6).trans rfl; have hcz11_7 : w9.cell? ⟨gb205, 7, none⟩ = some (.int .i64 a0_7) := (blk_cell BK205.out 7).trans rfl; have hfz11_0 := blk_frozen BK205.out 0; have hfz11_1 := blk_frozen BK205.out 1; have hfz11_2 := blk_frozen BK205.out 2; have hfz11_3 := blk_frozen BK205.out 3; have hfz11_4 := blk_frozen BK205.out 4; have hfz11_5 := blk_frozen BK205.out 5; have hfz11_6 := blk_frozen BK205.out 6; have hfz11_7 := blk_frozen BK205.out 7) | ((with_reducible refine gate_builtin (b := .append) (xs := #[.tmp 19, .tmp 21]) rfl ?_); at_builtin; refine Kd.R_append_rows (Kd.int .u8) (w0 := w) w.heap.size rfl (.tmp 19) (.tmp 21) 22 5 (.int .u8 0) 1 rfl Tryd.underlying22 info5 rfl (by decide) (by omega) v207 y206 l0_2 _ _ _ (fun _ => True) (fun _ => False) rfl rfl ?aO ?aR (fun _ _ h => h) (fun _ h => h.elim) ?aF ?aB ?aS ?aL ?_; (case aR => repeat (first | exact (Kd.C_below HR0_2.out HB.out) | exact HR0_2.out | (with_reducible refine Kd.C_alloc ?_ _) | (with_reducible refine Kd.C_drewN ?_ _) | (with_reducible refine Kd.C_drew ?_))); (case aB => exact (by qb1_ GE205)); (case aF => exact (fun _ _ => trivial)); (case aO => exact (by qR_; exact HO208.out)); (case aS => exact (below_size (by qb1_ GE205))); (case aL => have := LMc4.out; omega); intro v210 w12 ho hb hg hat; rw [← Ny209.out] at ho; have n0_ := Aside0.mk (blk_grown (g := gb205) (o := (om120_)) (by qk_; exact BK205.out) hg (Kd.R_ne HO208.out BK205.out (by decide))); have n1_ := Aside0.mk (hb); have n2_ := Aside0.mk (ho); clear BK205; clear HB; clear HO208; have BK205 := n0_; have HB := n1_; have HO211 := n2_; clear n0_ n1_ n2_; clear ho hb hg hat; have hcz13_0 : w12.cell? ⟨gb205, 0, none⟩ = some (.int .i64 a0_0) := (blk_cell BK205.out 0).trans rfl; have hcz13_1 : w12.cell? ⟨gb205, 1, none⟩ = some (.int .i64 a0_1) := (blk_cell BK205.out 1).trans rfl; have hcz13_2 : w12.cell? ⟨gb205, 2, none⟩ = some (.slice A0_2 l0_2.length c0_2) := (blk_cell BK205.out 2).trans rfl; have hcz13_3 : w12.cell? ⟨gb205, 3, none⟩ = some (.slice A0_3 l0_3.length c0_3) := (blk_cell BK205.out 3).trans rfl; have hcz13_4 : w12.cell? ⟨gb205, 4, none⟩ = some (.slice A0_4 l0_4.length c0_4) := (blk_cell BK205.out 4).trans rfl; have hcz13_5 : w12.cell? ⟨gb205, 5, none⟩ = some (.int .i64 a0_5) := (blk_cell BK205.out 5).trans rfl; have hcz13_6 : w12.cell? ⟨gb205, 6, none⟩ = some (.int .i64 a0_6) := (blk_cell BK205.out 6).trans rfl; have hcz13_7 : w12.cell? ⟨gb205, 7, none⟩ = some (.int .i64 a0_7) := (blk_cell BK205.out 7).trans rfl; have hfz13_0 := blk_frozen BK205.out 0; have hfz13_1 := blk_frozen BK205.out 1; have hfz13_2 := blk_frozen BK205.out 2; have hfz13_3 := blk_frozen BK205.out 3; have hfz13_4 := blk_frozen BK205.out 4; have hfz13_5 := blk_frozen BK205.out 5; have hfz13_6 := blk_frozen BK205.out 6; have hfz13_7 := blk_frozen BK205.out 7) | ((with_reducible refine gate_callee (f := 64) rfl ?_); refine goesL_ (some 28) rfl rfl Tryd.func64 (by kernel_rfl) rfl #[.int .i64 a0_6, .int .i64 a0_7] rfl (by (try simp only [List.map_toArray, List.map_cons, List.map_nil]); first | done | rfl | (simp only [List.length_drop, List.length_take]; rfl)) ?_; (with_reducible refine (shibbolethref05_Big.calls k a0_6 a0_7 t212 _ A5.out).mono ?_); rintro e w14 ⟨v213, rfl, ho0, hb⟩; refine ⟨_, rfl, ?_⟩; have n0_ := Aside0.mk (Kd.R_elder' (by qR_; exact HO211.out) (Kd.R_base ho0) hb); have n1_ := Aside0.mk (Kd.R_lower (Kd.R_new' ho0 (Kd.R_lt (by qR_; exact HO211.out))) (below_size (by qb1_ GE205))); have n2_ := Aside0.mk (blk_below (g := gb205) (o := (om120_)) (by qk_; exact BK205.out) hb); have n3_ := Aside0.mk (below_step (by qb1_ GE205) hb); clear HO211; clear BK205; clear HB; have HO211 := n0_; have HO214 := n1_; have BK205 := n2_; have HB := n3_; clear n0_ n1_ n2_ n3_; (try clear hb); (try clear hb2); (try clear hk); (try clear hi); (try clear ho0); obtain ⟨Ao16, co16, eo16⟩ := Kd.R_slice HO214.out; subst eo16) | ((with_reducible refine gate_builtin (b := .append) (xs := #[.tmp 23, .tmp 28]) rfl ?_); at_builtin; refine Kd.R_append_rows (Kd.int .u8) (w0 := w) w.heap.size rfl (.tmp 23) (.tmp 28) 22 5 (.int .u8 0) 1 rfl Tryd.underlying22 info5 rfl (by decide) (by omega) v210 y209 t212 _ _ _ (fun k_ => some k_ ≠ (.slice Ao16 t212.length co16 : Value).ownBlock) (fun _ => False) rfl rfl ?aO ?aR (fun _ _ h => h) (fun _ h => h.elim) ?aF ?aB ?aS ?aL ?_; (case aR => repeat (first | exact (Kd.R_reads' HO214.out).2.2 | (with_reducible refine Kd.C_alloc ?_ _) | (with_reducible refine Kd.C_drewN ?_ _) | (with_reducible refine Kd.C_drew ?_))); (case aB => exact (by qb1_ GE205)); (case aF => exact (fun k_ hk => Kd.fresh' (Kd.R_lt (by qR_; exact HO214.out)) k_ hk)); (case aO => exact (by qR_; exact Kd.R_mono HO211.out (fun _ hk => hk.2))); (case aS => exact (below_size (by qb1_ GE205))); (case aL => have := LMc6.out; omega); intro v216 w15 ho hb hg hat; rw [← Ny215.out] at ho; have n0_ := Aside0.mk (blk_grown (g := gb205) (o := (om120_)) (by qk_; exact BK205.out) hg (Kd.R_ne HO211.out BK205.out (by decide))); have n1_ := Aside0.mk (Kd.R_after (ok := (fun _ => True)) (by qR_; exact HO214.out) hg hat); have n2_ := Aside0.mk (hb); have n3_ := Aside0.mk (ho); clear BK205; clear HO214; clear HB; clear HO211; have BK205 := n0_; have HO214 := n1_; have HB := n2_; have HO217 := n3_; clear n0_ n1_ n2_ n3_; clear ho hb hg hat))
    go_ret
    exact ⟨_, by first | rfl | (simp [errW_none, errW_some] <;> rfl) | (simp [*, errW_none, errW_some] <;> rfl), by qR_; exact Kd.R_mono HO217.out (fun _ hk => trivial), by qb1_ GE205⟩
   ·rw [if_neg c6] at H
    exact absurd H (by simp)
  ·rw [if_neg c4] at H
   exact absurd H (by simp)
 ·rw [if_neg c3] at H
  have c3b0 : (a0_0 == 3) = false := beq_eq_false_iff_ne.mpr c3
  have c3b1 : (a0_0 != 3) = true := bne_iff_ne.mpr c3
  obtain ⟨y218, hy218⟩ : ∃ y_ : List Int, y_ = (([(wrap64 ((wrap64 ((wrap64 (192 + (wrap64 (16 * a0_0)))) + a0_7)) - 1)) % 256] : List Int)) := ⟨_, rfl⟩
  replace H : ((shibbolethref05_Big.f k a0_1 4).bind fun t221 => (if y218.length + t221.length < 140737488355328 then ((some (y218 ++ t221 : List Int)).bind fun y224 => (if y224.length < 140737488355328 then ((some (y224 ++ [((l0_2.length : Int)) % 256] : List Int)).bind fun y227 => (if y227.length + l0_2.length < 140737488355328 then ((some (y227 ++ l0_2 : List Int)).bind fun y230 => (if y230.length < 140737488355328 then ((some (y230 ++ [((l0_3.length : Int)) % 256] : List Int)).bind fun y233 => (if y233.length + l0_3.length < 140737488355328 then ((some (y233 ++ l0_3 : List Int)).bind fun y236 => (if a0_0 = 0 then ((shibbolethref01_Give.f k l0_4).bind fun t239 => (if y236.length + t239.length < 140737488355328 then ((some (y236 ++ t239 : List Int)).bind fun y242 => ((shibbolethref01_Bytes.f k (wrap64 (a0_7 + a1))).bind fun t245 => (if y242.length + t245.length < 140737488355328 then ((some (y242 ++ t245 : List Int)).bind fun y248 => ((shibbolethref05_Big.f k a0_6 a0_7).bind fun t251 => (if y248.length + t251.length < 140737488355328 then (some (y248 ++ t251)) else (none)))) else (none)))) else (none))) else ((shibbolethref01_Bytes.f k (wrap64 (a0_7 + a1))).bind fun t257 => (if y236.length + t257.length < 140737488355328 then ((some (y236 ++ t257 : List Int)).bind fun y260 => ((shibbolethref05_Big.f k a0_6 a0_7).bind fun t263 => (if y260.length + t263.length < 140737488355328 then (some (y260 ++ t263)) else (none)))) else (none))))) else (none))) else (none))) else (none))) else (none))) else (none))) = some r := by first | (rw [hy218]; with_reducible exact H) | (have H2_ := (Option.bind_some _ _).symm.trans H; rw [hy218]; with_reducible exact H2_) | (have H2_ := (Option.bind_some _ _).symm.trans H; with_reducible exact H2_) | with_reducible exact H | (rw [hy218]; exact H) | exact H
  have Ny218 := Aside0.mk hy218
  clear hy218
  replace H := Option.bind_eq_some_iff.mp H
  obtain ⟨t221, A170, H⟩ := H
  replace H : (if y218.length + t221.length < 140737488355328 then ((some (y218 ++ t221 : List Int)).bind fun y224 => (if y224.length < 140737488355328 then ((some (y224 ++ [((l0_2.length : Int)) % 256] : List Int)).bind fun y227 => (if y227.length + l0_2.length < 140737488355328 then ((some (y227 ++ l0_2 : List Int)).bind fun y230 => (if y230.length < 140737488355328 then ((some (y230 ++ [((l0_3.length : Int)) % 256] : List Int)).bind fun y233 => (if y233.length + l0_3.length < 140737488355328 then ((some (y233 ++ l0_3 : List Int)).bind fun y236 => (if a0_0 = 0 then ((shibbolethref01_Give.f k l0_4).bind fun t239 => (if y236.length + t239.length < 140737488355328 then ((some (y236 ++ t239 : List Int)).bind fun y242 => ((shibbolethref01_Bytes.f k (wrap64 (a0_7 + a1))).bind fun t245 => (if y242.length + t245.length < 140737488355328 then ((some (y242 ++ t245 : List Int)).bind fun y248 => ((shibbolethref05_Big.f k a0_6 a0_7).bind fun t251 => (if y248.length + t251.length < 140737488355328 then (some (y248 ++ t251)) else (none)))) else (none)))) else (none))) else ((shibbolethref01_Bytes.f k (wrap64 (a0_7 + a1))).bind fun t257 => (if y236.length + t257.length < 140737488355328 then ((some (y236 ++ t257 : List Int)).bind fun y260 => ((shibbolethref05_Big.f k a0_6 a0_7).bind fun t263 => (if y260.length + t263.length < 140737488355328 then (some (y260 ++ t263)) else (none)))) else (none))))) else (none))) else (none))) else (none))) else (none))) else (none)) = some r := H
  have A17 := Aside0.mk A170
  clear A170
  by_cases c18 : y218.length + t221.length < 140737488355328
  ·rw [if_pos c18] at H
   have LMc18 := Aside0.mk c18
   clear c18
   obtain ⟨y224, hy224⟩ : ∃ y_ : List Int, y_ = (y218 ++ t221) := ⟨_, rfl⟩
   replace H : (if y224.length < 140737488355328 then ((some (y224 ++ [((l0_2.length : Int)) % 256] : List Int)).bind fun y227 => (if y227.length + l0_2.length < 140737488355328 then ((some (y227 ++ l0_2 : List Int)).bind fun y230 => (if y230.length < 140737488355328 then ((some (y230 ++ [((l0_3.length : Int)) % 256] : List Int)).bind fun y233 => (if y233.length + l0_3.length < 140737488355328 then ((some (y233 ++ l0_3 : List Int)).bind fun y236 => (if a0_0 = 0 then ((shibbolethref01_Give.f k l0_4).bind fun t239 => (if y236.length + t239.length < 140737488355328 then ((some (y236 ++ t239 : List Int)).bind fun y242 => ((shibbolethref01_Bytes.f k (wrap64 (a0_7 + a1))).bind fun t245 => (if y242.length + t245.length < 140737488355328 then ((some (y242 ++ t245 : List Int)).bind fun y248 => ((shibbolethref05_Big.f k a0_6 a0_7).bind fun t251 => (if y248.length + t251.length < 140737488355328 then (some (y248 ++ t251)) else (none)))) else (none)))) else (none))) else ((shibbolethref01_Bytes.f k (wrap64 (a0_7 + a1))).bind fun t257 => (if y236.length + t257.length < 140737488355328 then ((some (y236 ++ t257 : List Int)).bind fun y260 => ((shibbolethref05_Big.f k a0_6 a0_7).bind fun t263 => (if y260.length + t263.length < 140737488355328 then (some (y260 ++ t263)) else (none)))) else (none))))) else (none))) else (none))) else (none))) else (none)) = some r := by first | (rw [hy224]; with_reducible exact H) | (have H2_ := (Option.bind_some _ _).symm.trans H; rw [hy224]; with_reducible exact H2_) | (have H2_ := (Option.bind_some _ _).symm.trans H; with_reducible exact H2_) | with_reducible exact H | (rw [hy224]; exact H) | exact H
   have Ny224 := Aside0.mk hy224
   clear hy224
   by_cases c19 : y224.length < 140737488355328
   ·rw [if_pos c19] at H
    have LMc19 := Aside0.mk c19
    clear c19
    obtain ⟨y227, hy227⟩ : ∃ y_ : List Int, y_ = (y224 ++ [((l0_2.length : Int)) % 256]) := ⟨_, rfl⟩
    replace H : (if y227.length + l0_2.length < 140737488355328 then ((some (y227 ++ l0_2 : List Int)).bind fun y230 => (if y230.length < 140737488355328 then ((some (y230 ++ [((l0_3.length : Int)) % 256] : List Int)).bind fun y233 => (if y233.length + l0_3.length < 140737488355328 then ((some (y233 ++ l0_3 : List Int)).bind fun y236 => (if a0_0 = 0 then ((shibbolethref01_Give.f k l0_4).bind fun t239 => (if y236.length + t239.length < 140737488355328 then ((some (y236 ++ t239 : List Int)).bind fun y242 => ((shibbolethref01_Bytes.f k (wrap64 (a0_7 + a1))).bind fun t245 => (if y242.length + t245.length < 140737488355328 then ((some (y242 ++ t245 : List Int)).bind fun y248 => ((shibbolethref05_Big.f k a0_6 a0_7).bind fun t251 => (if y248.length + t251.length < 140737488355328 then (some (y248 ++ t251)) else (none)))) else (none)))) else (none))) else ((shibbolethref01_Bytes.f k (wrap64 (a0_7 + a1))).bind fun t257 => (if y236.length + t257.length < 140737488355328 then ((some (y236 ++ t257 : List Int)).bind fun y260 => ((shibbolethref05_Big.f k a0_6 a0_7).bind fun t263 => (if y260.length + t263.length < 140737488355328 then (some (y260 ++ t263)) else (none)))) else (none))))) else (none))) else (none))) else (none)) = some r := by first | (rw [hy227]; with_reducible exact H) | (have H2_ := (Option.bind_some _ _).symm.trans H; rw [hy227]; with_reducible exact H2_) | (have H2_ := (Option.bind_some _ _).symm.trans H; with_reducible exact H2_) | with_reducible exact H | (rw [hy227]; exact H) | exact H
    have Ny227 := Aside0.mk hy227
    clear hy227
    by_cases c20 : y227.length + l0_2.length < 140737488355328
    ·rw [if_pos c20] at H
     have LMc20 := Aside0.mk c20
     clear c20
     obtain ⟨y230, hy230⟩ : ∃ y_ : List Int, y_ = (y227 ++ l0_2) := ⟨_, rfl⟩
     replace H : (if y230.length < 140737488355328 then ((some (y230 ++ [((l0_3.length : Int)) % 256] : List Int)).bind fun y233 => (if y233.length + l0_3.length < 140737488355328 then ((some (y233 ++ l0_3 : List Int)).bind fun y236 => (if a0_0 = 0 then ((shibbolethref01_Give.f k l0_4).bind fun t239 => (if y236.length + t239.length < 140737488355328 then ((some (y236 ++ t239 : List Int)).bind fun y242 => ((shibbolethref01_Bytes.f k (wrap64 (a0_7 + a1))).bind fun t245 => (if y242.length + t245.length < 140737488355328 then ((some (y242 ++ t245 : List Int)).bind fun y248 => ((shibbolethref05_Big.f k a0_6 a0_7).bind fun t251 => (if y248.length + t251.length < 140737488355328 then (some (y248 ++ t251)) else (none)))) else (none)))) else (none))) else ((shibbolethref01_Bytes.f k (wrap64 (a0_7 + a1))).bind fun t257 => (if y236.length + t257.length < 140737488355328 then ((some (y236 ++ t257 : List Int)).bind fun y260 => ((shibbolethref05_Big.f k a0_6 a0_7).bind fun t263 => (if y260.length + t263.length < 140737488355328 then (some (y260 ++ t263)) else (none)))) else (none))))) else (none))) else (none)) = some r := by first | (rw [hy230]; with_reducible exact H) | (have H2_ := (Option.bind_some _ _).symm.trans H; rw [hy230]; with_reducible exact H2_) | (have H2_ := (Option.bind_some _ _).symm.trans H; with_reducible exact H2_) | with_reducible exact H | (rw [hy230]; exact H) | exact H
     have Ny230 := Aside0.mk hy230
     clear hy230
     by_cases c21 : y230.length < 140737488355328
     ·rw [if_pos c21] at H
      have LMc21 := Aside0.mk c21
      clear c21
      obtain ⟨y233, hy233⟩ : ∃ y_ : List Int, y_ = (y230 ++ [((l0_3.length : Int)) % 256]) := ⟨_, rfl⟩
      replace H : (if y233.length + l0_3.length < 140737488355328 then ((some (y233 ++ l0_3 : List Int)).bind fun y236 => (if a0_0 = 0 then ((shibbolethref01_Give.f k l0_4).bind fun t239 => (if y236.length + t239.length < 140737488355328 then ((some (y236 ++ t239 : List Int)).bind fun y242 => ((shibbolethref01_Bytes.f k (wrap64 (a0_7 + a1))).bind fun t245 => (if y242.length + t245.length < 140737488355328 then ((some (y242 ++ t245 : List Int)).bind fun y248 => ((shibbolethref05_Big.f k a0_6 a0_7).bind fun t251 => (if y248.length + t251.length < 140737488355328 then (some (y248 ++ t251)) else (none)))) else (none)))) else (none))) else ((shibbolethref01_Bytes.f k (wrap64 (a0_7 + a1))).bind fun t257 => (if y236.length + t257.length < 140737488355328 then ((some (y236 ++ t257 : List Int)).bind fun y260 => ((shibbolethref05_Big.f k a0_6 a0_7).bind fun t263 => (if y260.length + t263.length < 140737488355328 then (some (y260 ++ t263)) else (none)))) else (none))))) else (none)) = some r := by first | (rw [hy233]; with_reducible exact H) | (have H2_ := (Option.bind_some _ _).symm.trans H; rw [hy233]; with_reducible exact H2_) | (have H2_ := (Option.bind_some _ _).symm.trans H; with_reducible exact H2_) | with_reducible exact H | (rw [hy233]; exact H) | exact H
      have Ny233 := Aside0.mk hy233
      clear hy233
      by_cases c22 : y233.length + l0_3.length < 140737488355328
      ·rw [if_pos c22] at H
       have LMc22 := Aside0.mk c22
       clear c22
       obtain ⟨y236, hy236⟩ : ∃ y_ : List Int, y_ = (y233 ++ l0_3) := ⟨_, rfl⟩
       replace H : (if a0_0 = 0 then ((shibbolethref01_Give.f k l0_4).bind fun t239 => (if y236.length + t239.length < 140737488355328 then ((some (y236 ++ t239 : List Int)).bind fun y242 => ((shibbolethref01_Bytes.f k (wrap64 (a0_7 + a1))).bind fun t245 => (if y242.length + t245.length < 140737488355328 then ((some (y242 ++ t245 : List Int)).bind fun y248 => ((shibbolethref05_Big.f k a0_6 a0_7).bind fun t251 => (if y248.length + t251.length < 140737488355328 then (some (y248 ++ t251)) else (none)))) else (none)))) else (none))) else ((shibbolethref01_Bytes.f k (wrap64 (a0_7 + a1))).bind fun t257 => (if y236.length + t257.length < 140737488355328 then ((some (y236 ++ t257 : List Int)).bind fun y260 => ((shibbolethref05_Big.f k a0_6 a0_7).bind fun t263 => (if y260.length + t263.length < 140737488355328 then (some (y260 ++ t263)) else (none)))) else (none)))) = some r := by first | (rw [hy236]; with_reducible exact H) | (have H2_ := (Option.bind_some _ _).symm.trans H; rw [hy236]; with_reducible exact H2_) | (have H2_ := (Option.bind_some _ _).symm.trans H; with_reducible exact H2_) | with_reducible exact H | (rw [hy236]; exact H) | exact H
       have Ny236 := Aside0.mk hy236
       clear hy236
       by_cases c23 : a0_0 = 0
       ·rw [if_pos c23] at H
        have c23b0 : (a0_0 == 0) = true := beq_iff_eq.mpr c23
        have c23b1 : (a0_0 != 0) = false := bne_eq_false_iff_eq.mpr c23
        clear c23
        replace H := Option.bind_eq_some_iff.mp H
        obtain ⟨t239, A240, H⟩ := H
        replace H : (if y236.length + t239.length < 140737488355328 then ((some (y236 ++ t239 : List Int)).bind fun y242 => ((shibbolethref01_Bytes.f k (wrap64 (a0_7 + a1))).bind fun t245 => (if y242.length + t245.length < 140737488355328 then ((some (y242 ++ t245 : List Int)).bind fun y248 => ((shibbolethref05_Big.f k a0_6 a0_7).bind fun t251 => (if y248.length + t251.length < 140737488355328 then (some (y248 ++ t251)) else (none)))) else (none)))) else (none)) = some r := H
        have A24 := Aside0.mk A240
        clear A240
        by_cases c25 : y236.length + t239.length < 140737488355328
        ·rw [if_pos c25] at H
         have LMc25 := Aside0.mk c25
         clear c25
         obtain ⟨y242, hy242⟩ : ∃ y_ : List Int, y_ = (y236 ++ t239) := ⟨_, rfl⟩
         replace H : ((shibbolethref01_Bytes.f k (wrap64 (a0_7 + a1))).bind fun t245 => (if y242.length + t245.length < 140737488355328 then ((some (y242 ++ t245 : List Int)).bind fun y248 => ((shibbolethref05_Big.f k a0_6 a0_7).bind fun t251 => (if y248.length + t251.length < 140737488355328 then (some (y248 ++ t251)) else (none)))) else (none))) = some r := by first | (rw [hy242]; with_reducible exact H) | (have H2_ := (Option.bind_some _ _).symm.trans H; rw [hy242]; with_reducible exact H2_) | (have H2_ := (Option.bind_some _ _).symm.trans H; with_reducible exact H2_) | with_reducible exact H | (rw [hy242]; exact H) | exact H
         have Ny242 := Aside0.mk hy242
         clear hy242
         replace H := Option.bind_eq_some_iff.mp H
         obtain ⟨t245, A260, H⟩ := H
         replace H : (if y242.length + t245.length < 140737488355328 then ((some (y242 ++ t245 : List Int)).bind fun y248 => ((shibbolethref05_Big.f k a0_6 a0_7).bind fun t251 => (if y248.length + t251.length < 140737488355328 then (some (y248 ++ t251)) else (none)))) else (none)) = some r := H
         have A26 := Aside0.mk A260
         clear A260
         by_cases c27 : y242.length + t245.length < 140737488355328
         ·rw [if_pos c27] at H
          have LMc27 := Aside0.mk c27
          clear c27
          obtain ⟨y248, hy248⟩ : ∃ y_ : List Int, y_ = (y242 ++ t245) := ⟨_, rfl⟩
          replace H : ((shibbolethref05_Big.f k a0_6 a0_7).bind fun t251 => (if y248.length + t251.length < 140737488355328 then (some (y248 ++ t251)) else (none))) = some r := by first | (rw [hy248]; with_reducible exact H) | (have H2_ := (Option.bind_some _ _).symm.trans H; rw [hy248]; with_reducible exact H2_) | (have H2_ := (Option.bind_some _ _).symm.trans H; with_reducible exact H2_) | with_reducible exact H | (rw [hy248]; exact H) | exact H
          have Ny248 := Aside0.mk hy248
          clear hy248
          replace H := Option.bind_eq_some_iff.mp H
          obtain ⟨t251, A280, H⟩ := H
          replace H : (if y248.length + t251.length < 140737488355328 then (some (y248 ++ t251)) else (none)) = some r := H
          have A28 := Aside0.mk A280
          clear A280
          by_cases c29 : y248.length + t251.length < 140737488355328
          ·rw [if_pos c29] at H
           have LMc29 := Aside0.mk c29
           clear c29
           obtain ⟨y254, hy254⟩ : ∃ y_ : List Int, y_ = (y248 ++ t251) := ⟨_, rfl⟩
           replace H : (some y254) = some r := by first | (rw [hy254]; with_reducible exact H) | (have H2_ := (Option.bind_some _ _).symm.trans H; rw [hy254]; with_reducible exact H2_) | (have H2_ := (Option.bind_some _ _).symm.trans H; with_reducible exact H2_) | with_reducible exact H | (rw [hy254]; exact H) | exact H
           have Ny254 := Aside0.mk hy254
           clear hy254
           obtain rfl := Option.some.inj H
           go_enter Tryd.func40, Tryd.ntmps40
           try go_wp2_with (first | ((with_reducible refine gate_dst (N := 2) rfl ?_); refine box_event ?hg (N := 2) ?hd (cs := #[.int .i64 a0_0, .int .i64 a0_1, .slice A0_2 l0_2.length c0_2, .slice A0_3 l0_3.length c0_3, .slice A0_4 l0_4.length c0_4, .int .i64 a0_5, .int .i64 a0_6, .int .i64 a0_7]) (t := 44) ?hr ?_; (case hd => rfl); (case hg => rfl); (case hr => first | (go_simp; done) | (go_simp; rfl)); intro gb205 hg w30 hbox hb; have n0_ := Aside0.mk (below_step (by qc0_) hb); have n1_ := Aside0.mk (hbox); have n2_ := Aside0.mk ((by rw [hg]; exact (below_size (by qc0_)) : w.heap.size ≤ gb205)); have n3_ := Aside0.mk ((by rw [hg]; exact (below_size (by qc0_)) : w.heap.size ≤ gb205)); clear HB; have HB := n0_; have BK205 := n1_; have GW205 := n2_; have GE205 := n3_; clear n0_ n1_ n2_ n3_; clear hb hbox hg; have hcz31_0 : w30.cell? ⟨gb205, 0, none⟩ = some (.int .i64 a0_0) := (blk_cell BK205.out 0).trans rfl; have hcz31_1 : w30.cell? ⟨gb205, 1, none⟩ = some (.int .i64 a0_1) := (blk_cell BK205.out 1).trans rfl; have hcz31_2 : w30.cell? ⟨gb205, 2, none⟩ = some (.slice A0_2 l0_2.length c0_2) := (blk_cell BK205.out 2).trans rfl; have hcz31_3 : w30.cell? ⟨gb205, 3, none⟩ = some (.slice A0_3 l0_3.length c0_3) := (blk_cell BK205.out 3).trans rfl; have hcz31_4 : w30.cell? ⟨gb205, 4, none⟩ = some (.slice A0_4 l0_4.length c0_4) := (blk_cell BK205.out 4).trans rfl; have hcz31_5 : w30.cell? ⟨gb205, 5, none⟩ = some (.int .i64 a0_5) := (blk_cell BK205.out 5).trans rfl; have hcz31_6 : w30.cell? ⟨gb205, 6, none⟩ = some (.int .i64 a0_6) := (blk_cell BK205.out 6).trans rfl; have hcz31_7 : w30.cell? ⟨gb205, 7, none⟩ = some (.int .i64 a0_7) := (blk_cell BK205.out 7).trans rfl; have hfz31_0 := blk_frozen BK205.out 0; have hfz31_1 := blk_frozen BK205.out 1; have hfz31_2 := blk_frozen BK205.out 2; have hfz31_3 := blk_frozen BK205.out 3; have hfz31_4 := blk_frozen BK205.out 4; have hfz31_5 := blk_frozen BK205.out 5; have hfz31_6 := blk_frozen BK205.out 6; have hfz31_7 := blk_frozen BK205.out 7))
           have n0_ := Aside0.mk (blk_drew BK205.out)
           have n1_ := Aside0.mk (below_drew1 HB.out)
           clear BK205
           clear HB
           have BK205 := n0_
           have HB := n1_
           clear n0_ n1_
           refine start_ (n := 15) (S := fun w' => w'.cell? ⟨gb205, 0, none⟩ = some (.int .i64 a0_0) ∧ w'.cell? ⟨gb205, 1, none⟩ = some (.int .i64 a0_1) ∧ w'.cell? ⟨gb205, 2, none⟩ = some (.slice A0_2 l0_2.length c0_2) ∧ w'.cell? ⟨gb205, 3, none⟩ = some (.slice A0_3 l0_3.length c0_3) ∧ w'.cell? ⟨gb205, 4, none⟩ = some (.slice A0_4 l0_4.length c0_4) ∧ w'.cell? ⟨gb205, 5, none⟩ = some (.int .i64 a0_5) ∧ w'.cell? ⟨gb205, 6, none⟩ = some (.int .i64 a0_6) ∧ w'.cell? ⟨gb205, 7, none⟩ = some (.int .i64 a0_7)) (ds := []) #[false, false, false, false, false, false, false, false, false, false, false, false, false, false, false] (by kernel_rfl) rfl rfl ⟨(blk_cell BK205.out 0).trans rfl, (blk_cell BK205.out 1).trans rfl, (blk_cell BK205.out 2).trans rfl, (blk_cell BK205.out 3).trans rfl, (blk_cell BK205.out 4).trans rfl, (blk_cell BK205.out 5).trans rfl, (blk_cell BK205.out 6).trans rfl, (blk_cell BK205.out 7).trans rfl⟩ (fun hHeld => ?_); refine with_tabW shibbolethref05_Write.tab4 shibbolethref05_Write.bits4 (fun HT_ HW_ => ?_)
           generalize w30.drew = w32 at BK205 HB hHeld ⊢
           refine pure_ (i := 0) (N := some 30) (v := ?_) (a' := ?_) #[true, false, false, false, false, false, false, false, false, false, false, false, false, false, false] rfl rfl (any_of HT_.out (by kernel_rfl)) (fun _ _ _ h => h) (Or.inl ⟨by rfl, ?_⟩) ?_ ?_
           rotate_left
           ·intro w'
            go_simp
            with_reducible rfl
           rotate_left
           ·qp_
            rfl
           refine pure_ (i := 4) (N := some 34) (v := ?_) (a' := ?_) #[true, false, false, false, true, false, false, false, false, false, false, false, false, false, false] rfl rfl (any_of HT_.out (by kernel_rfl)) (fun _ _ _ h => h) (Or.inl ⟨by rfl, ?_⟩) ?_ ?_
           rotate_left
           ·intro w'
            go_simp
            with_reducible rfl
           rotate_left
           ·qp_
            rfl
           refine pure_ (i := 10) (N := some 40) (v := ?_) (a' := ?_) #[true, false, false, false, true, false, false, false, false, false, true, false, false, false, false] rfl rfl (any_of HT_.out (by kernel_rfl)) (fun _ _ _ h => h) (Or.inl ⟨by rfl, ?_⟩) ?_ ?_
           rotate_left
           ·intro w'
            go_simp
            with_reducible rfl
           rotate_left
           ·qp_
            rfl
           refine take_ (i := 1) (N := some 31) (v := ?_) (a' := ?_) #[true, true, false, false, true, false, false, false, false, false, true, false, false, false, false] rfl rfl (take_ofW HT_.out HW_.out (by kernel_rfl)) (fun _ _ _ h => h) (Or.inl ⟨by rfl, ?_⟩) hHeld ?_ ?_
           rotate_left
           ·rintro w' ⟨s0, s1, s2, s3, s4, s5, s6, s7⟩
            go_simp
            with_reducible rfl
           rotate_left
           ·qp_
            rfl
           refine pure_ (i := 2) (N := some 32) (v := ?_) (a' := ?_) #[true, true, true, false, true, false, false, false, false, false, true, false, false, false, false] rfl rfl (any_of HT_.out (by kernel_rfl)) (fun _ _ _ h => h) (Or.inl ⟨by rfl, ?_⟩) ?_ ?_
           rotate_left
           ·intro w'
            go_simp
            with_reducible rfl
           rotate_left
           ·qp_
            rfl
           refine pure_ (i := 3) (N := some 33) (v := ?_) (a' := ?_) #[true, true, true, true, true, false, false, false, false, false, true, false, false, false, false] rfl rfl (any_of HT_.out (by kernel_rfl)) (fun _ _ _ h => h) (Or.inl ⟨by rfl, ?_⟩) ?_ ?_
           rotate_left
           ·intro w'
            go_simp
            with_reducible rfl
           rotate_left
           ·qp_
            rfl
           refine take_ (i := 5) (N := some 35) (v := ?_) (a' := ?_) #[true, true, true, true, true, true, false, false, false, false, true, false, false, false, false] rfl rfl (take_ofW HT_.out HW_.out (by kernel_rfl)) (fun _ _ _ h => h) (Or.inl ⟨by rfl, ?_⟩) hHeld ?_ ?_
           rotate_left
           ·rintro w' ⟨s0, s1, s2, s3, s4, s5, s6, s7⟩
            go_simp
            with_reducible rfl
           rotate_left
           ·qp_
            rfl
           refine pure_ (i := 6) (N := some 36) (v := ?_) (a' := ?_) #[true, true, true, true, true, true, true, false, false, false, true, false, false, false, false] rfl rfl (any_of HT_.out (by kernel_rfl)) (fun _ _ _ h => h) (Or.inl ⟨by rfl, ?_⟩) ?_ ?_
           rotate_left
           ·intro w'
            go_simp
            with_reducible rfl
           rotate_left
           ·qp_
            rfl
           refine pure_ (i := 7) (N := some 37) (v := ?_) (a' := ?_) #[true, true, true, true, true, true, true, true, false, false, true, false, false, false, false] rfl rfl (any_of HT_.out (by kernel_rfl)) (fun _ _ _ h => h) (Or.inl ⟨by rfl, ?_⟩) ?_ ?_
           rotate_left
           ·intro w'
            go_simp
            with_reducible rfl
           rotate_left
           ·qp_
            rfl
           refine pure_ (i := 8) (N := some 38) (v := ?_) (a' := ?_) #[true, true, true, true, true, true, true, true, true, false, true, false, false, false, false] rfl rfl (any_of HT_.out (by kernel_rfl)) (fun _ _ _ h => h) (Or.inl ⟨by rfl, ?_⟩) ?_ ?_
           rotate_left
           ·intro w'
            go_simp
            with_reducible rfl
           rotate_left
           ·qp_
            rfl
           refine take_ (i := 11) (N := some 41) (v := ?_) (a' := ?_) #[true, true, true, true, true, true, true, true, true, false, true, true, false, false, false] rfl rfl (take_ofW HT_.out HW_.out (by kernel_rfl)) (fun _ _ _ h => h) (Or.inl ⟨by rfl, ?_⟩) hHeld ?_ ?_
           rotate_left
           ·rintro w' ⟨s0, s1, s2, s3, s4, s5, s6, s7⟩
            go_simp
            with_reducible rfl
           rotate_left
           ·qp_
            rfl
           refine join_ (σ := Value × Value) 2 #[true, true, true, true, true, true, true, true, true, true, true, true, true, false, false] (fun s_ => [(39, s_.1), (42, s_.2)]) (fun s_ w' => (w'.cell? ⟨gb205, 0, none⟩ = some (.int .i64 a0_0) ∧ w'.cell? ⟨gb205, 1, none⟩ = some (.int .i64 a0_1) ∧ w'.cell? ⟨gb205, 2, none⟩ = some (.slice A0_2 l0_2.length c0_2) ∧ w'.cell? ⟨gb205, 3, none⟩ = some (.slice A0_3 l0_3.length c0_3) ∧ w'.cell? ⟨gb205, 4, none⟩ = some (.slice A0_4 l0_4.length c0_4) ∧ w'.cell? ⟨gb205, 5, none⟩ = some (.int .i64 a0_5) ∧ w'.cell? ⟨gb205, 6, none⟩ = some (.int .i64 a0_6) ∧ w'.cell? ⟨gb205, 7, none⟩ = some (.int .i64 a0_7)) ∧ (Kd.R (Kd.int .u8) 5 w' w.heap.size (fun k_ => some k_ ≠ (s_.2 : Value).ownBlock) s_.1 y218) ∧ (Kd.R (Kd.int .u8) 5 w' w.heap.size (fun k_ => some k_ ≠ (s_.1 : Value).ownBlock) s_.2 t221) ∧ (w'.heap[gb205]? = some ((om120_))) ∧ (Below w.heap.size w w')) ?_ ?_
           rotate_left
           ·intro hCont
            refine two_ (i := 9) (j := 12) (Ni := some 39) (Nj := some 42) #[true, true, true, true, true, true, true, true, true, true, true, true, false, false, false] #[true, true, true, true, true, true, true, true, true, false, true, true, true, false, false] rfl rfl rfl rfl (two_of HT_.out (by kernel_rfl)) (by decide) (by decide) (fun K hK => ?_) (fun K hK => ?_)
            ·skip
             lm120_
             intro v219 w33 ho34 hb hg_ hnew_
             clear hg_ hnew_
             (first | rw [← Ny218.out] at ho34 | (simp only [Int.reduceToNat] at ho34; rw [← Ny218.out] at ho34))
             have n0_ := Aside0.mk (Kd.R_lower ho34 (below_size (by qb1_ GE205)))
             lm121_
             have n2_ := Aside0.mk (below_step (by qb1_ GE205) hb)
             clear BK205
             clear HB
             have HO220 := n0_
             have BK205 := n1_
             have HB := n2_
             clear n0_ n1_ n2_
             clear hb ho34
             lm122_
             clear hK K
             refine norm_ (a' := ?_) ?_ ?_
             rotate_left
             ·show Act.put _ (some 39) _ = _
              qp_
              rfl
             refine one_ (i := 12) (N := some 42) #[true, true, true, true, true, true, true, true, true, true, true, true, true, false, false] rfl rfl (one_of HT_.out (by kernel_rfl)) (by decide) (fun K hK => ?_)
             lm123_
             with_reducible refine (shibbolethref05_Big.calls k a0_1 4 t221 _ A17.out).mono ?_
             rintro e w35 ⟨v222, rfl, ho0, hb⟩
             refine ⟨_, rfl, ?_⟩
             have n0_ := Aside0.mk (Kd.R_elder' (by qR_; exact HO220.out) (Kd.R_base ho0) hb)
             have n1_ := Aside0.mk (Kd.R_lower (Kd.R_new' ho0 (Kd.R_lt (by qR_; exact HO220.out))) (below_size (by qb1_ GE205)))
             lm124_
             have n3_ := Aside0.mk (below_step (by qb1_ GE205) hb)
             clear HO220
             clear BK205
             clear HB
             have HO220 := n0_
             have HO223 := n1_
             have BK205 := n2_
             have HB := n3_
             clear n0_ n1_ n2_ n3_
             (try clear hb)
             (try clear hb2)
             (try clear hk)
             (try clear hi)
             (try clear ho0)
             lm122_
             clear hK K
             refine norm_ (a' := ?_) ?_ ?_
             rotate_left
             ·show Act.put _ (some 42) _ = _
              qp_
              rfl
             lm125_
            ·skip
             lm123_
             with_reducible refine (shibbolethref05_Big.calls k a0_1 4 t221 _ A17.out).mono ?_
             rintro e w33 ⟨v222, rfl, ho0, hb⟩
             refine ⟨_, rfl, ?_⟩
             have n0_ := Aside0.mk (Kd.R_lower ho0 (below_size (by qb1_ GE205)))
             lm121_
             have n2_ := Aside0.mk (below_step (by qb1_ GE205) hb)
             clear BK205
             clear HB
             have HO223 := n0_
             have BK205 := n1_
             have HB := n2_
             clear n0_ n1_ n2_
             (try clear hb)
             (try clear hb2)
             (try clear hk)
             (try clear hi)
             (try clear ho0)
             lm122_
             clear hK K
             refine norm_ (a' := ?_) ?_ ?_
             rotate_left
             ·show Act.put _ (some 42) _ = _
              qp_
              rfl
             refine one_ (i := 9) (N := some 39) #[true, true, true, true, true, true, true, true, true, true, true, true, true, false, false] rfl rfl (one_of HT_.out (by kernel_rfl)) (by decide) (fun K hK => ?_)
             lm120_
             intro v219 w34 ho35 hb hg_ hnew_
             clear hg_ hnew_
             (first | rw [← Ny218.out] at ho35 | (simp only [Int.reduceToNat] at ho35; rw [← Ny218.out] at ho35))
             have n0_ := Aside0.mk (Kd.R_elder' (by qR_; exact HO223.out) (Kd.R_base ho35) hb)
             have n1_ := Aside0.mk (Kd.R_lower (Kd.R_new' ho35 (Kd.R_lt (by qR_; exact HO223.out))) (below_size (by qb1_ GE205)))
             lm124_
             have n3_ := Aside0.mk (below_step (by qb1_ GE205) hb)
             clear HO223
             clear BK205
             clear HB
             have HO223 := n0_
             have HO220 := n1_
             have BK205 := n2_
             have HB := n3_
             clear n0_ n1_ n2_ n3_
             clear hb ho35
             lm122_
             clear hK K
             refine norm_ (a' := ?_) ?_ ?_
             rotate_left
             ·show Act.put _ (some 39) _ = _
              qp_
              rfl
             lm125_
           rintro ⟨v219, v222⟩ w36 ⟨hS_, h0_, h1_, h2_, h3_⟩
           have n0_ : Aside0 (Kd.R (Kd.int .u8) 5 w36 w.heap.size (fun k_ => some k_ ≠ (v222 : Value).ownBlock) v219 y218) := ⟨h0_⟩
           have n1_ : Aside0 (Kd.R (Kd.int .u8) 5 w36 w.heap.size (fun k_ => some k_ ≠ (v219 : Value).ownBlock) v222 t221) := ⟨h1_⟩
           have n2_ : Aside0 (w36.heap[gb205]? = some ((om120_))) := ⟨h2_⟩
           have n3_ : Aside0 (Below w.heap.size w w36) := ⟨h3_⟩
           clear BK205
           clear HB
           clear h0_ h1_ h2_ h3_
           have HO220 := n0_
           have HO223 := n1_
           have BK205 := n2_
           have HB := n3_
           clear n0_ n1_ n2_ n3_
           have hHeld : w36.cell? ⟨gb205, 0, none⟩ = some (.int .i64 a0_0) ∧ w36.cell? ⟨gb205, 1, none⟩ = some (.int .i64 a0_1) ∧ w36.cell? ⟨gb205, 2, none⟩ = some (.slice A0_2 l0_2.length c0_2) ∧ w36.cell? ⟨gb205, 3, none⟩ = some (.slice A0_3 l0_3.length c0_3) ∧ w36.cell? ⟨gb205, 4, none⟩ = some (.slice A0_4 l0_4.length c0_4) ∧ w36.cell? ⟨gb205, 5, none⟩ = some (.int .i64 a0_5) ∧ w36.cell? ⟨gb205, 6, none⟩ = some (.int .i64 a0_6) ∧ w36.cell? ⟨gb205, 7, none⟩ = some (.int .i64 a0_7) := hS_
           obtain ⟨Ao38, co38, eo38⟩ := Kd.R_slice HO223.out
           (first | subst eo38 | (injection eo38 with f1_ f2_ f3_; have f4_ := f1_.symm; have f5_ := f3_.symm; clear f1_ f2_ f3_; subst f4_; subst f5_))
           refine norm_ (a' := ?_) ?_ ?_
           rotate_left
           ·simp only [putAll, Act.put, List.setIfInBounds_toArray, List.set_cons_zero, List.set_cons_succ]
            rfl
           refine one_ (i := 13) (N := some 43) #[true, true, true, true, true, true, true, true, true, true, true, true, true, true, false] rfl rfl (one_of HT_.out (by kernel_rfl)) (by decide) (fun K hK => ?_)
           refine Kd.R_append_rows_step (Kd.int .u8) (w0 := w) w.heap.size (by rfl) (.tmp 39) (.tmp 42) 22 5 (.int .u8 0) 1 rfl Tryd.underlying22 info5 rfl (by decide) (by omega) v219 y218 t221 _ _ _ (fun k_ => some k_ ≠ (.slice Ao38 t221.length co38 : Value).ownBlock) (fun _ => False) rfl rfl ?aO ?aR (fun _ _ h => h) (fun _ h => h.elim) ?aF ?aB ?aS ?aL ?_
           (case aR => repeat (first | exact (Kd.R_reads' HO223.out).2.2 | (with_reducible refine Kd.C_alloc ?_ _) | (with_reducible refine Kd.C_drewN ?_ _) | (with_reducible refine Kd.C_drew ?_)))
           (case aB => exact (by qb1_ GE205))
           lm126_
           (case aO => exact (by qR_; exact HO220.out))
           (case aS => exact (below_size (by qb1_ GE205)))
           (case aL => have := LMc18.out; omega)
           intro v225 w37 ho hb hg hat
           rw [← Ny224.out] at ho
           have n0_ := Aside0.mk (blk_grown (g := gb205) (o := (om120_)) (by qk_; exact BK205.out) hg (Kd.R_ne HO220.out BK205.out (by decide)))
           have n1_ := Aside0.mk (Kd.R_after (ok := (fun _ => True)) (by qR_; exact Kd.R_mono HO223.out (fun _ hk => ⟨trivial, hk⟩)) hg hat)
           have n2_ := Aside0.mk (hb)
           have n3_ := Aside0.mk (ho)
           clear BK205
           clear HO223
           clear HB
           clear HO220
           have BK205 := n0_
           have HO223 := n1_
           have HB := n2_
           have HO226 := n3_
           clear n0_ n1_ n2_ n3_
           clear ho hb hg hat
           lm122_
           clear hK K
           refine norm_ (a' := ?_) ?_ ?_
           rotate_left
           ·show Act.put _ (some 43) _ = _
            qp_
            rfl
           refine pure_ (i := 14) (N := some 6) (v := ?_) (a' := ?_) #[true, true, true, true, true, true, true, true, true, true, true, true, true, true, true] rfl rfl (any_of HT_.out (by kernel_rfl)) (fun _ _ _ h => h) (Or.inl ⟨by rfl, ?_⟩) ?_ ?_
           rotate_left
           ·intro w'
            go_simp
            with_reducible rfl
           rotate_left
           ·qp_
            rfl
           refine done_ (done_of HT_.out (by kernel_rfl)) ?_
           try go_wp2
           have n0_ := Aside0.mk (Kd.R_drew HO223.out)
           have n1_ := Aside0.mk (Kd.R_drew HO226.out)
           have n2_ := Aside0.mk (blk_drew BK205.out)
           have n3_ := Aside0.mk (below_drew1 HB.out)
           clear HO223
           clear HO226
           clear BK205
           clear HB
           have HO223 := n0_
           have HO226 := n1_
           have BK205 := n2_
           have HB := n3_
           clear n0_ n1_ n2_ n3_
           refine start_ (n := 11) (S := fun w' => w'.cell? ⟨gb205, 0, none⟩ = some (.int .i64 a0_0) ∧ w'.cell? ⟨gb205, 1, none⟩ = some (.int .i64 a0_1) ∧ w'.cell? ⟨gb205, 2, none⟩ = some (.slice A0_2 l0_2.length c0_2) ∧ w'.cell? ⟨gb205, 3, none⟩ = some (.slice A0_3 l0_3.length c0_3) ∧ w'.cell? ⟨gb205, 4, none⟩ = some (.slice A0_4 l0_4.length c0_4) ∧ w'.cell? ⟨gb205, 5, none⟩ = some (.int .i64 a0_5) ∧ w'.cell? ⟨gb205, 6, none⟩ = some (.int .i64 a0_6) ∧ w'.cell? ⟨gb205, 7, none⟩ = some (.int .i64 a0_7)) (ds := []) #[false, false, false, false, false, false, false, false, false, false, false] (by kernel_rfl) rfl rfl ⟨(blk_cell BK205.out 0).trans rfl, (blk_cell BK205.out 1).trans rfl, (blk_cell BK205.out 2).trans rfl, (blk_cell BK205.out 3).trans rfl, (blk_cell BK205.out 4).trans rfl, (blk_cell BK205.out 5).trans rfl, (blk_cell BK205.out 6).trans rfl, (blk_cell BK205.out 7).trans rfl⟩ (fun hHeld => ?_); refine with_tabW shibbolethref05_Write.tab5 shibbolethref05_Write.bits5 (fun HT_ HW_ => ?_)
           generalize w37.drew = w39 at HO223 HO226 BK205 HB hHeld ⊢
           refine pure_ (i := 0) (N := some 44) (v := ?_) (a' := ?_) #[true, false, false, false, false, false, false, false, false, false, false] rfl rfl (any_of HT_.out (by kernel_rfl)) (fun _ _ _ h => h) (Or.inl ⟨by rfl, ?_⟩) ?_ ?_
           rotate_left
           ·intro w'
            go_simp
            with_reducible rfl
           rotate_left
           ·qp_
            rfl
           refine pure_ (i := 1) (N := some 45) (v := ?_) (a' := ?_) #[true, true, false, false, false, false, false, false, false, false, false] rfl rfl (any_of HT_.out (by kernel_rfl)) (fun _ _ _ h => h) (Or.inl ⟨by rfl, ?_⟩) ?_ ?_
           rotate_left
           ·intro w'
            go_simp
            with_reducible rfl
           rotate_left
           ·qp_
            rfl
           refine pure_ (i := 7) (N := some 51) (v := ?_) (a' := ?_) #[true, true, false, false, false, false, false, true, false, false, false] rfl rfl (any_of HT_.out (by kernel_rfl)) (fun _ _ _ h => h) (Or.inl ⟨by rfl, ?_⟩) ?_ ?_
           rotate_left
           ·intro w'
            go_simp
            with_reducible rfl
           rotate_left
           ·qp_
            rfl
           refine take_ (i := 2) (N := some 46) (v := ?_) (a' := ?_) #[true, true, true, false, false, false, false, true, false, false, false] rfl rfl (take_ofW HT_.out HW_.out (by kernel_rfl)) (fun _ _ _ h => h) (Or.inl ⟨by rfl, ?_⟩) hHeld ?_ ?_
           rotate_left
           ·rintro w' ⟨s0, s1, s2, s3, s4, s5, s6, s7⟩
            go_simp
            with_reducible rfl
           rotate_left
           ·qp_
            rfl
           refine pure_ (i := 3) (N := some 47) (v := ?_) (a' := ?_) #[true, true, true, true, false, false, false, true, false, false, false] rfl rfl (any_of HT_.out (by kernel_rfl)) (fun _ _ _ h => h) (Or.inl ⟨by rfl, ?_⟩) ?_ ?_
           rotate_left
           ·intro w'
            go_simp
            with_reducible rfl
           rotate_left
           ·qp_
            rfl
           refine pure_ (i := 4) (N := some 48) (v := ?_) (a' := ?_) #[true, true, true, true, true, false, false, true, false, false, false] rfl rfl (any_of HT_.out (by kernel_rfl)) (fun _ _ _ h => h) (Or.inl ⟨by rfl, ?_⟩) ?_ ?_
           rotate_left
           ·intro w'
            go_simp
            with_reducible rfl
           rotate_left
           ·qp_
            rfl
           refine take_ (i := 8) (N := some 52) (v := ?_) (a' := ?_) #[true, true, true, true, true, false, false, true, true, false, false] rfl rfl (take_ofW HT_.out HW_.out (by kernel_rfl)) (fun _ _ _ h => h) (Or.inl ⟨by rfl, ?_⟩) hHeld ?_ ?_
           rotate_left
           ·rintro w' ⟨s0, s1, s2, s3, s4, s5, s6, s7⟩
            go_simp
            with_reducible rfl
           rotate_left
           ·qp_
            rfl
           refine one_ (i := 5) (N := some 49) #[true, true, true, true, true, true, false, true, true, false, false] rfl rfl (one_of HT_.out (by kernel_rfl)) (by decide) (fun K hK => ?_)
           refine value_ (w1 := ?_) (v := ?_) (by rfl) rfl ?_ ?_
           rotate_left 2
           ·go_simp
            constructor
            ·rfl
            ·rfl
           lm127_
           clear hK K
           refine norm_ (a' := ?_) ?_ ?_
           rotate_left
           ·show Act.put _ (some 49) _ = _
            qp_
            rfl
           refine one_ (i := 6) (N := some 50) #[true, true, true, true, true, true, true, true, true, false, false] rfl rfl (one_of HT_.out (by kernel_rfl)) (by decide) (fun K hK => ?_)
           refine Kd.R_append_step (Kd.int .u8) (w0 := w) w.heap.size (by rfl) (.tmp 44) (.tmp 49) 22 5 (.int .u8 0) 1 rfl Tryd.underlying22 info5 rfl (by decide) (by omega) v225 y224 (((l0_2.length : Int)) % 256) [.int .u8 (((l0_2.length : Int)) % 256)] (fun k_ => some k_ ≠ (.slice Ao38 t221.length co38 : Value).ownBlock) (fun _ => False) rfl rfl ?aP (fun _ hk => hk.elim) ?aF ?aO ?aB ?aS ?aL ?_
           (case aP => exact rfl)
           (case aB => exact (by qb1_ GE205))
           lm126_
           (case aO => exact (by qR_; exact HO226.out))
           (case aS => exact (below_size (by qb1_ GE205)))
           (case aL => have := LMc19.out; omega)
           intro v228 w40 ho hb hg hat
           rw [← Ny227.out] at ho
           have n0_ := Aside0.mk (blk_grown (g := gb205) (o := (om120_)) (by qk_; exact BK205.out) hg (Kd.R_ne HO226.out BK205.out (by decide)))
           lm128_
           have n2_ := Aside0.mk (hb)
           have n3_ := Aside0.mk (ho)
           clear BK205
           clear HO223
           clear HB
           clear HO226
           have BK205 := n0_
           have HO223 := n1_
           have HB := n2_
           have HO229 := n3_
           clear n0_ n1_ n2_ n3_
           clear ho hb hg hat
           lm122_
           clear hK K
           refine norm_ (a' := ?_) ?_ ?_
           rotate_left
           ·show Act.put _ (some 50) _ = _
            qp_
            rfl
           refine one_ (i := 9) (N := some 53) #[true, true, true, true, true, true, true, true, true, true, false] rfl rfl (one_of HT_.out (by kernel_rfl)) (by decide) (fun K hK => ?_)
           refine Kd.R_append_rows_step (Kd.int .u8) (w0 := w) w.heap.size (by rfl) (.tmp 50) (.tmp 52) 22 5 (.int .u8 0) 1 rfl Tryd.underlying22 info5 rfl (by decide) (by omega) v228 y227 l0_2 _ _ _ (fun k_ => some k_ ≠ (.slice Ao38 t221.length co38 : Value).ownBlock) (fun _ => False) rfl rfl ?aO ?aR (fun _ _ h => h) (fun _ h => h.elim) ?aF ?aB ?aS ?aL ?_
           (case aR => repeat (first | exact (Kd.C_below HR0_2.out HB.out) | exact HR0_2.out | (with_reducible refine Kd.C_alloc ?_ _) | (with_reducible refine Kd.C_drewN ?_ _) | (with_reducible refine Kd.C_drew ?_)))
           (case aB => exact (by qb1_ GE205))
           lm126_
           (case aO => exact (by qR_; exact HO229.out))
           (case aS => exact (below_size (by qb1_ GE205)))
           (case aL => have := LMc20.out; omega)
           intro v231 w41 ho hb hg hat
           rw [← Ny230.out] at ho
           have n0_ := Aside0.mk (blk_grown (g := gb205) (o := (om120_)) (by qk_; exact BK205.out) hg (Kd.R_ne HO229.out BK205.out (by decide)))
           lm128_
           have n2_ := Aside0.mk (hb)
           have n3_ := Aside0.mk (ho)
           clear BK205
           clear HO223
           clear HB
           clear HO229
           have BK205 := n0_
           have HO223 := n1_
           have HB := n2_
           have HO232 := n3_
           clear n0_ n1_ n2_ n3_
           clear ho hb hg hat
           lm122_
           clear hK K
           refine norm_ (a' := ?_) ?_ ?_
           rotate_left
           ·show Act.put _ (some 53) _ = _
            qp_
            rfl
           lm129_
           rotate_left
           ·intro w'
            go_simp
            with_reducible rfl
           rotate_left
           ·qp_
            rfl
           refine done_ (done_of HT_.out (by kernel_rfl)) ?_
           try go_wp2
           have n0_ := Aside0.mk (Kd.R_drew HO223.out)
           have n1_ := Aside0.mk (Kd.R_drew HO232.out)
           have n2_ := Aside0.mk (blk_drew BK205.out)
           have n3_ := Aside0.mk (below_drew1 HB.out)
           clear HO223
           clear HO232
           clear BK205
           clear HB
           have HO223 := n0_
           have HO232 := n1_
           have BK205 := n2_
           have HB := n3_
           clear n0_ n1_ n2_ n3_
           refine start_ (n := 11) (S := fun w' => w'.cell? ⟨gb205, 0, none⟩ = some (.int .i64 a0_0) ∧ w'.cell? ⟨gb205, 1, none⟩ = some (.int .i64 a0_1) ∧ w'.cell? ⟨gb205, 2, none⟩ = some (.slice A0_2 l0_2.length c0_2) ∧ w'.cell? ⟨gb205, 3, none⟩ = some (.slice A0_3 l0_3.length c0_3) ∧ w'.cell? ⟨gb205, 4, none⟩ = some (.slice A0_4 l0_4.length c0_4) ∧ w'.cell? ⟨gb205, 5, none⟩ = some (.int .i64 a0_5) ∧ w'.cell? ⟨gb205, 6, none⟩ = some (.int .i64 a0_6) ∧ w'.cell? ⟨gb205, 7, none⟩ = some (.int .i64 a0_7)) (ds := []) #[false, false, false, false, false, false, false, false, false, false, false] (by kernel_rfl) rfl rfl ⟨(blk_cell BK205.out 0).trans rfl, (blk_cell BK205.out 1).trans rfl, (blk_cell BK205.out 2).trans rfl, (blk_cell BK205.out 3).trans rfl, (blk_cell BK205.out 4).trans rfl, (blk_cell BK205.out 5).trans rfl, (blk_cell BK205.out 6).trans rfl, (blk_cell BK205.out 7).trans rfl⟩ (fun hHeld => ?_); refine with_tabW shibbolethref05_Write.tab6 shibbolethref05_Write.bits6 (fun HT_ HW_ => ?_)
           generalize w41.drew = w42 at HO223 HO232 BK205 HB hHeld ⊢
           refine pure_ (i := 0) (N := some 54) (v := ?_) (a' := ?_) #[true, false, false, false, false, false, false, false, false, false, false] rfl rfl (any_of HT_.out (by kernel_rfl)) (fun _ _ _ h => h) (Or.inl ⟨by rfl, ?_⟩) ?_ ?_
           rotate_left
           ·intro w'
            go_simp
            with_reducible rfl
           rotate_left
           ·qp_
            rfl
           refine pure_ (i := 1) (N := some 55) (v := ?_) (a' := ?_) #[true, true, false, false, false, false, false, false, false, false, false] rfl rfl (any_of HT_.out (by kernel_rfl)) (fun _ _ _ h => h) (Or.inl ⟨by rfl, ?_⟩) ?_ ?_
           rotate_left
           ·intro w'
            go_simp
            with_reducible rfl
           rotate_left
           ·qp_
            rfl
           refine pure_ (i := 7) (N := some 61) (v := ?_) (a' := ?_) #[true, true, false, false, false, false, false, true, false, false, false] rfl rfl (any_of HT_.out (by kernel_rfl)) (fun _ _ _ h => h) (Or.inl ⟨by rfl, ?_⟩) ?_ ?_
           rotate_left
           ·intro w'
            go_simp
            with_reducible rfl
           rotate_left
           ·qp_
            rfl
           refine take_ (i := 2) (N := some 56) (v := ?_) (a' := ?_) #[true, true, true, false, false, false, false, true, false, false, false] rfl rfl (take_ofW HT_.out HW_.out (by kernel_rfl)) (fun _ _ _ h => h) (Or.inl ⟨by rfl, ?_⟩) hHeld ?_ ?_
           rotate_left
           ·rintro w' ⟨s0, s1, s2, s3, s4, s5, s6, s7⟩
            go_simp
            with_reducible rfl
           rotate_left
           ·qp_
            rfl
           refine pure_ (i := 3) (N := some 57) (v := ?_) (a' := ?_) #[true, true, true, true, false, false, false, true, false, false, false] rfl rfl (any_of HT_.out (by kernel_rfl)) (fun _ _ _ h => h) (Or.inl ⟨by rfl, ?_⟩) ?_ ?_
           rotate_left
           ·intro w'
            go_simp
            with_reducible rfl
           rotate_left
           ·qp_
            rfl
           refine pure_ (i := 4) (N := some 58) (v := ?_) (a' := ?_) #[true, true, true, true, true, false, false, true, false, false, false] rfl rfl (any_of HT_.out (by kernel_rfl)) (fun _ _ _ h => h) (Or.inl ⟨by rfl, ?_⟩) ?_ ?_
           rotate_left
           ·intro w'
            go_simp
            with_reducible rfl
           rotate_left
           ·qp_
            rfl
           refine take_ (i := 8) (N := some 62) (v := ?_) (a' := ?_) #[true, true, true, true, true, false, false, true, true, false, false] rfl rfl (take_ofW HT_.out HW_.out (by kernel_rfl)) (fun _ _ _ h => h) (Or.inl ⟨by rfl, ?_⟩) hHeld ?_ ?_
           rotate_left
           ·rintro w' ⟨s0, s1, s2, s3, s4, s5, s6, s7⟩
            go_simp
            with_reducible rfl
           rotate_left
           ·qp_
            rfl
           refine one_ (i := 5) (N := some 59) #[true, true, true, true, true, true, false, true, true, false, false] rfl rfl (one_of HT_.out (by kernel_rfl)) (by decide) (fun K hK => ?_)
           refine value_ (w1 := ?_) (v := ?_) (by rfl) rfl ?_ ?_
           rotate_left 2
           ·go_simp
            constructor
            ·rfl
            ·rfl
           lm127_
           clear hK K
           refine norm_ (a' := ?_) ?_ ?_
           rotate_left
           ·show Act.put _ (some 59) _ = _
            qp_
            rfl
           refine one_ (i := 6) (N := some 60) #[true, true, true, true, true, true, true, true, true, false, false] rfl rfl (one_of HT_.out (by kernel_rfl)) (by decide) (fun K hK => ?_)
           refine Kd.R_append_step (Kd.int .u8) (w0 := w) w.heap.size (by rfl) (.tmp 54) (.tmp 59) 22 5 (.int .u8 0) 1 rfl Tryd.underlying22 info5 rfl (by decide) (by omega) v231 y230 (((l0_3.length : Int)) % 256) [.int .u8 (((l0_3.length : Int)) % 256)] (fun k_ => some k_ ≠ (.slice Ao38 t221.length co38 : Value).ownBlock) (fun _ => False) rfl rfl ?aP (fun _ hk => hk.elim) ?aF ?aO ?aB ?aS ?aL ?_
           (case aP => exact rfl)
           (case aB => exact (by qb1_ GE205))
           lm126_
           (case aO => exact (by qR_; exact HO232.out))
           (case aS => exact (below_size (by qb1_ GE205)))
           (case aL => have := LMc21.out; omega)
           intro v234 w43 ho hb hg hat
           rw [← Ny233.out] at ho
           have n0_ := Aside0.mk (blk_grown (g := gb205) (o := (om120_)) (by qk_; exact BK205.out) hg (Kd.R_ne HO232.out BK205.out (by decide)))
           lm128_
           have n2_ := Aside0.mk (hb)
           have n3_ := Aside0.mk (ho)
           clear BK205
           clear HO223
           clear HB
           clear HO232
           have BK205 := n0_
           have HO223 := n1_
           have HB := n2_
           have HO235 := n3_
           clear n0_ n1_ n2_ n3_
           clear ho hb hg hat
           lm122_
           clear hK K
           refine norm_ (a' := ?_) ?_ ?_
           rotate_left
           ·show Act.put _ (some 60) _ = _
            qp_
            rfl
           refine one_ (i := 9) (N := some 63) #[true, true, true, true, true, true, true, true, true, true, false] rfl rfl (one_of HT_.out (by kernel_rfl)) (by decide) (fun K hK => ?_)
           refine Kd.R_append_rows_step (Kd.int .u8) (w0 := w) w.heap.size (by rfl) (.tmp 60) (.tmp 62) 22 5 (.int .u8 0) 1 rfl Tryd.underlying22 info5 rfl (by decide) (by omega) v234 y233 l0_3 _ _ _ (fun k_ => some k_ ≠ (.slice Ao38 t221.length co38 : Value).ownBlock) (fun _ => False) rfl rfl ?aO ?aR (fun _ _ h => h) (fun _ h => h.elim) ?aF ?aB ?aS ?aL ?_
           (case aR => repeat (first | exact (Kd.C_below HR0_3.out HB.out) | exact HR0_3.out | (with_reducible refine Kd.C_alloc ?_ _) | (with_reducible refine Kd.C_drewN ?_ _) | (with_reducible refine Kd.C_drew ?_)))
           (case aB => exact (by qb1_ GE205))
           lm126_
           (case aO => exact (by qR_; exact HO235.out))
           (case aS => exact (below_size (by qb1_ GE205)))
           (case aL => have := LMc22.out; omega)
           intro v237 w44 ho hb hg hat
           rw [← Ny236.out] at ho
           have n0_ := Aside0.mk (blk_grown (g := gb205) (o := (om120_)) (by qk_; exact BK205.out) hg (Kd.R_ne HO235.out BK205.out (by decide)))
           lm128_
           have n2_ := Aside0.mk (hb)
           have n3_ := Aside0.mk (ho)
           clear BK205
           clear HO223
           clear HB
           clear HO235
           have BK205 := n0_
           have HO223 := n1_
           have HB := n2_
           have HO238 := n3_
           clear n0_ n1_ n2_ n3_
           clear ho hb hg hat
           lm122_
           clear hK K
           refine norm_ (a' := ?_) ?_ ?_
           rotate_left
           ·show Act.put _ (some 63) _ = _
            qp_
            rfl
           lm129_
           rotate_left
           ·intro w'
            go_simp
            with_reducible rfl
           rotate_left
           ·qp_
            rfl
           refine done_ (done_of HT_.out (by kernel_rfl)) ?_
           have hcz45_0 : w44.cell? ⟨gb205, 0, none⟩ = some (.int .i64 a0_0) := (blk_cell BK205.out 0).trans rfl
           have hcz45_1 : w44.cell? ⟨gb205, 1, none⟩ = some (.int .i64 a0_1) := (blk_cell BK205.out 1).trans rfl
           have hcz45_2 : w44.cell? ⟨gb205, 2, none⟩ = some (.slice A0_2 l0_2.length c0_2) := (blk_cell BK205.out 2).trans rfl
           have hcz45_3 : w44.cell? ⟨gb205, 3, none⟩ = some (.slice A0_3 l0_3.length c0_3) := (blk_cell BK205.out 3).trans rfl
           have hcz45_4 : w44.cell? ⟨gb205, 4, none⟩ = some (.slice A0_4 l0_4.length c0_4) := (blk_cell BK205.out 4).trans rfl
           have hcz45_5 : w44.cell? ⟨gb205, 5, none⟩ = some (.int .i64 a0_5) := (blk_cell BK205.out 5).trans rfl
           have hcz45_6 : w44.cell? ⟨gb205, 6, none⟩ = some (.int .i64 a0_6) := (blk_cell BK205.out 6).trans rfl
           have hcz45_7 : w44.cell? ⟨gb205, 7, none⟩ = some (.int .i64 a0_7) := (blk_cell BK205.out 7).trans rfl
           have hfz45_0 := blk_frozen BK205.out 0
           have hfz45_1 := blk_frozen BK205.out 1
           have hfz45_2 := blk_frozen BK205.out 2
           have hfz45_3 := blk_frozen BK205.out 3
           have hfz45_4 := blk_frozen BK205.out 4
           have hfz45_5 := blk_frozen BK205.out 5
           have hfz45_6 := blk_frozen BK205.out 6
           have hfz45_7 := blk_frozen BK205.out 7
           try go_wp2_with (first | ((with_reducible refine gate_callee (f := 32) rfl ?_); refine goesL_ (some 70) rfl rfl Tryd.func32 (by kernel_rfl) rfl #[.slice A0_4 l0_4.length c0_4] rfl (by (try simp only [List.map_toArray, List.map_cons, List.map_nil]); first | done | rfl | (simp only [List.length_drop, List.length_take]; rfl)) ?_; (with_reducible refine (shibbolethref01_Give.calls k _ _ l0_4 t239 _ ?side1 ?side2 A24.out).mono ?_); (case side1 => repeat (first | exact (Kd.C_below HR0_4.out HB.out) | exact HR0_4.out | (with_reducible refine Kd.C_alloc ?_ _) | (with_reducible refine Kd.C_drewN ?_ _) | (with_reducible refine Kd.C_drew ?_))); (case side2 => exact HC0_4.out); rintro e w46 ⟨v240, rfl, ho0, hb⟩; refine ⟨_, rfl, ?_⟩; have n0_ := Aside0.mk (Kd.R_elder' (by qR_; exact HO223.out) (Kd.R_base ho0) hb); have n1_ := Aside0.mk (Kd.R_elder' (by qR_; exact HO238.out) (Kd.R_base ho0) hb); have n2_ := Aside0.mk (Kd.R_lower (Kd.R_new' (Kd.R_new' ho0 (Kd.R_lt (by qR_; exact HO223.out))) (Kd.R_lt (by qR_; exact HO238.out))) (below_size (by qb1_ GE205))); have n3_ := Aside0.mk (blk_below (g := gb205) (o := (om120_)) (by qk_; exact BK205.out) hb); have n4_ := Aside0.mk (below_step (by qb1_ GE205) hb); clear HO223; clear HO238; clear BK205; clear HB; have HO223 := n0_; have HO238 := n1_; have HO241 := n2_; have BK205 := n3_; have HB := n4_; clear n0_ n1_ n2_ n3_ n4_; (try clear hb); (try clear hb2); (try clear hk); (try clear hi); (try clear ho0); obtain ⟨Ao48, co48, eo48⟩ := Kd.R_slice HO241.out; subst eo48) | ((with_reducible refine gate_builtin (b := .append) (xs := #[.tmp 67, .tmp 70]) rfl ?_); at_builtin; refine Kd.R_append_rows (Kd.int .u8) (w0 := w) w.heap.size rfl (.tmp 67) (.tmp 70) 22 5 (.int .u8 0) 1 rfl Tryd.underlying22 info5 rfl (by decide) (by omega) v237 y236 t239 _ _ _ (fun k_ => some k_ ≠ (.slice Ao38 t221.length co38 : Value).ownBlock ∧ some k_ ≠ (.slice Ao48 t239.length co48 : Value).ownBlock) (fun _ => False) rfl rfl ?aO ?aR (fun _ _ h => h) (fun _ h => h.elim) ?aF ?aB ?aS ?aL ?_; (case aR => repeat (first | exact (Kd.R_reads' HO241.out).2.2 | (with_reducible refine Kd.C_alloc ?_ _) | (with_reducible refine Kd.C_drewN ?_ _) | (with_reducible refine Kd.C_drew ?_))); (case aB => exact (by qb1_ GE205)); (case aF => exact (fun k_ hk => ⟨Kd.fresh' (Kd.R_lt (by qR_; exact HO223.out)) k_ hk, Kd.fresh' (Kd.R_lt (by qR_; exact HO241.out)) k_ hk⟩)); (case aO => exact (by qR_; exact HO238.out)); (case aS => exact (below_size (by qb1_ GE205))); (case aL => have := LMc25.out; omega); intro v243 w47 ho hb hg hat; rw [← Ny242.out] at ho; have n0_ := Aside0.mk (blk_grown (g := gb205) (o := (om120_)) (by qk_; exact BK205.out) hg (Kd.R_ne HO238.out BK205.out (by decide))); have n1_ := Aside0.mk (Kd.R_after (ok := (fun k_ => some k_ ≠ (.slice Ao48 t239.length co48 : Value).ownBlock)) (by qR_; exact Kd.R_mono HO223.out (fun _ hk => ⟨hk.2, hk.1.2⟩)) hg hat); have n2_ := Aside0.mk (Kd.R_after (ok := (fun k_ => some k_ ≠ (.slice Ao38 t221.length co38 : Value).ownBlock)) (by qR_; exact Kd.R_mono HO241.out (fun _ hk => ⟨hk.1.2, hk.2⟩)) hg hat); have n3_ := Aside0.mk (hb); have n4_ := Aside0.mk (ho); clear BK205; clear HO223; clear HO241; clear HB; clear HO238; have BK205 := n0_; have HO223 := n1_; have HO241 := n2_; have HB := n3_; have HO244 := n4_; clear n0_ n1_ n2_ n3_ n4_; clear ho hb hg hat; have hcz49_0 : w47.cell? ⟨gb205, 0, none⟩ = some (.int .i64 a0_0) := (blk_cell BK205.out 0).trans rfl; have hcz49_1 : w47.cell? ⟨gb205, 1, none⟩ = some (.int .i64 a0_1) := (blk_cell BK205.out 1).trans rfl; have hcz49_2 : w47.cell? ⟨gb205, 2, none⟩ = some (.slice A0_2 l0_2.length c0_2) := (blk_cell BK205.out 2).trans rfl; have hcz49_3 : w47.cell? ⟨gb205, 3, none⟩ = some (.slice A0_3 l0_3.length c0_3) := (blk_cell BK205.out 3).trans rfl; have hcz49_4 : w47.cell? ⟨gb205, 4, none⟩ = some (.slice A0_4 l0_4.length c0_4) := (blk_cell BK205.out 4).trans rfl; have hcz49_5 : w47.cell? ⟨gb205, 5, none⟩ = some (.int .i64 a0_5) := (blk_cell BK205.out 5).trans rfl; have hcz49_6 : w47.cell? ⟨gb205, 6, none⟩ = some (.int .i64 a0_6) := (blk_cell BK205.out 6).trans rfl; have hcz49_7 : w47.cell? ⟨gb205, 7, none⟩ = some (.int .i64 a0_7) := (blk_cell BK205.out 7).trans rfl; have hfz49_0 := blk_frozen BK205.out 0; have hfz49_1 := blk_frozen BK205.out 1; have hfz49_2 := blk_frozen BK205.out 2; have hfz49_3 := blk_frozen BK205.out 3; have hfz49_4 := blk_frozen BK205.out 4; have hfz49_5 := blk_frozen BK205.out 5; have hfz49_6 := blk_frozen BK205.out 6; have hfz49_7 := blk_frozen BK205.out 7) | ((with_reducible refine gate_callee (f := 23) rfl ?_); refine goesL_ (some 77) rfl rfl Tryd.func23 (by kernel_rfl) rfl #[.int .i64 (wrap64 (a0_7 + a1))] rfl (by (try simp only [List.map_toArray, List.map_cons, List.map_nil]); first | done | rfl | (simp only [List.length_drop, List.length_take]; rfl)) ?_; (with_reducible refine (shibbolethref01_Bytes.calls k (wrap64 (a0_7 + a1)) t245 _ A26.out).mono ?_); rintro e w50 ⟨v246, rfl, ho0, hb⟩; refine ⟨_, rfl, ?_⟩; have n0_ := Aside0.mk (Kd.R_elder' (by qR_; exact HO223.out) (Kd.R_base ho0) hb); have n1_ := Aside0.mk (Kd.R_elder' (by qR_; exact HO241.out) (Kd.R_base ho0) hb); have n2_ := Aside0.mk (Kd.R_elder' (by qR_; exact HO244.out) (Kd.R_base ho0) hb); have n3_ := Aside0.mk (Kd.R_lower (Kd.R_new' (Kd.R_new' (Kd.R_new' ho0 (Kd.R_lt (by qR_; exact HO223.out))) (Kd.R_lt (by qR_; exact HO241.out))) (Kd.R_lt (by qR_; exact HO244.out))) (below_size (by qb1_ GE205))); have n4_ := Aside0.mk (blk_below (g := gb205) (o := (om120_)) (by qk_; exact BK205.out) hb); have n5_ := Aside0.mk (below_step (by qb1_ GE205) hb); clear HO223; clear HO241; clear HO244; clear BK205; clear HB; have HO223 := n0_; have HO241 := n1_; have HO244 := n2_; have HO247 := n3_; have BK205 := n4_; have HB := n5_; clear n0_ n1_ n2_ n3_ n4_ n5_; (try clear hb); (try clear hb2); (try clear hk); (try clear hi); (try clear ho0); obtain ⟨Ao52, co52, eo52⟩ := Kd.R_slice HO247.out; subst eo52) | ((with_reducible refine gate_builtin (b := .append) (xs := #[.tmp 72, .tmp 77]) rfl ?_); at_builtin; refine Kd.R_append_rows (Kd.int .u8) (w0 := w) w.heap.size rfl (.tmp 72) (.tmp 77) 22 5 (.int .u8 0) 1 rfl Tryd.underlying22 info5 rfl (by decide) (by omega) v243 y242 t245 _ _ _ (fun k_ => some k_ ≠ (.slice Ao38 t221.length co38 : Value).ownBlock ∧ some k_ ≠ (.slice Ao48 t239.length co48 : Value).ownBlock ∧ some k_ ≠ (.slice Ao52 t245.length co52 : Value).ownBlock) (fun _ => False) rfl rfl ?aO ?aR (fun _ _ h => h) (fun _ h => h.elim) ?aF ?aB ?aS ?aL ?_; (case aR => repeat (first | exact (Kd.R_reads' HO247.out).2.2 | (with_reducible refine Kd.C_alloc ?_ _) | (with_reducible refine Kd.C_drewN ?_ _) | (with_reducible refine Kd.C_drew ?_))); (case aB => exact (by qb1_ GE205)); (case aF => exact (fun k_ hk => ⟨Kd.fresh' (Kd.R_lt (by qR_; exact HO223.out)) k_ hk, Kd.fresh' (Kd.R_lt (by qR_; exact HO241.out)) k_ hk, Kd.fresh' (Kd.R_lt (by qR_; exact HO247.out)) k_ hk⟩)); (case aO => exact (by qR_; exact Kd.R_mono HO244.out (fun _ hk => ⟨hk.1.1, ⟨hk.1.2, hk.2⟩⟩))); (case aS => exact (below_size (by qb1_ GE205))); (case aL => have := LMc27.out; omega); intro v249 w51 ho hb hg hat; rw [← Ny248.out] at ho; have n0_ := Aside0.mk (blk_grown (g := gb205) (o := (om120_)) (by qk_; exact BK205.out) hg (Kd.R_ne HO244.out BK205.out (by decide))); have n1_ := Aside0.mk (Kd.R_after (ok := (fun k_ => some k_ ≠ (.slice Ao48 t239.length co48 : Value).ownBlock ∧ some k_ ≠ (.slice Ao52 t245.length co52 : Value).ownBlock)) (by qR_; exact Kd.R_mono HO223.out (fun _ hk => ⟨⟨hk.1.1, hk.2⟩, hk.1.2⟩)) hg hat); have n2_ := Aside0.mk (Kd.R_after (ok := (fun k_ => some k_ ≠ (.slice Ao38 t221.length co38 : Value).ownBlock ∧ some k_ ≠ (.slice Ao52 t245.length co52 : Value).ownBlock)) (by qR_; exact Kd.R_mono HO241.out (fun _ hk => ⟨⟨hk.1.1, hk.2⟩, hk.1.2⟩)) hg hat); have n3_ := Aside0.mk (Kd.R_after (ok := (fun k_ => some k_ ≠ (.slice Ao38 t221.length co38 : Value).ownBlock ∧ some k_ ≠ (.slice Ao48 t239.length co48 : Value).ownBlock)) (by qR_; exact Kd.R_mono HO247.out (fun _ hk => ⟨⟨hk.1.1.2, hk.1.2⟩, hk.2⟩)) hg hat); have n4_ := Aside0.mk (hb); have n5_ := Aside0.mk (ho); clear BK205; clear HO223; clear HO241; clear HO247; clear HB; clear HO244; have BK205 := n0_; have HO223 := n1_; have HO241 := n2_; have HO247 := n3_; have HB := n4_; have HO250 := n5_; clear n0_ n1_ n2_ n3_ n4_ n5_; clear ho hb hg hat; have hcz53_0 : w51.cell? ⟨gb205, 0, none⟩ = some (.int .i64 a0_0) := (blk_cell BK205.out 0).trans rfl; have hcz53_1 : w51.cell? ⟨gb205, 1, none⟩ = some (.int .i64 a0_1) := (blk_cell BK205.out 1).trans rfl; have hcz53_2 : w51.cell? ⟨gb205, 2, none⟩ = some (.slice A0_2 l0_2.length c0_2) := (blk_cell BK205.out 2).trans rfl; have hcz53_3 : w51.cell? ⟨gb205, 3, none⟩ = some (.slice A0_3 l0_3.length c0_3) := (blk_cell BK205.out 3).trans rfl; have hcz53_4 : w51.cell? ⟨gb205, 4, none⟩ = some (.slice A0_4 l0_4.length c0_4) := (blk_cell BK205.out 4).trans rfl; have hcz53_5 : w51.cell? ⟨gb205, 5, none⟩ = some (.int .i64 a0_5) := (blk_cell BK205.out 5).trans rfl; have hcz53_6 : w51.cell? ⟨gb205, 6, none⟩ = some (.int .i64 a0_6) := (blk_cell BK205.out 6).trans rfl; have hcz53_7 : w51.cell? ⟨gb205, 7, none⟩ = some (.int .i64 a0_7) := (blk_cell BK205.out 7).trans rfl; have hfz53_0 := blk_frozen BK205.out 0; have hfz53_1 := blk_frozen BK205.out 1; have hfz53_2 := blk_frozen BK205.out 2; have hfz53_3 := blk_frozen BK205.out 3; have hfz53_4 := blk_frozen BK205.out 4; have hfz53_5 := blk_frozen BK205.out 5; have hfz53_6 := blk_frozen BK205.out 6; have hfz53_7 := blk_frozen BK205.out 7) | ((with_reducible refine gate_callee (f := 64) rfl ?_); refine goesL_ (some 84) rfl rfl Tryd.func64 (by kernel_rfl) rfl #[.int .i64 a0_6, .int .i64 a0_7] rfl (by (try simp only [List.map_toArray, List.map_cons, List.map_nil]); first | done | rfl | (simp only [List.length_drop, List.length_take]; rfl)) ?_; (with_reducible refine (shibbolethref05_Big.calls k a0_6 a0_7 t251 _ A28.out).mono ?_); rintro e w54 ⟨v252, rfl, ho0, hb⟩; refine ⟨_, rfl, ?_⟩; have n0_ := Aside0.mk (Kd.R_elder' (by qR_; exact HO223.out) (Kd.R_base ho0) hb); have n1_ := Aside0.mk (Kd.R_elder' (by qR_; exact HO241.out) (Kd.R_base ho0) hb); have n2_ := Aside0.mk (Kd.R_elder' (by qR_; exact HO247.out) (Kd.R_base ho0) hb); have n3_ := Aside0.mk (Kd.R_elder' (by qR_; exact HO250.out) (Kd.R_base ho0) hb); have n4_ := Aside0.mk (Kd.R_lower (Kd.R_new' (Kd.R_new' (Kd.R_new' (Kd.R_new' ho0 (Kd.R_lt (by qR_; exact HO223.out))) (Kd.R_lt (by qR_; exact HO241.out))) (Kd.R_lt (by qR_; exact HO247.out))) (Kd.R_lt (by qR_; exact HO250.out))) (below_size (by qb1_ GE205))); have n5_ := Aside0.mk (blk_below (g := gb205) (o := (om120_)) (by qk_; exact BK205.out) hb); have n6_ := Aside0.mk (below_step (by qb1_ GE205) hb); clear HO223; clear HO241; clear HO247; clear HO250; clear BK205; clear HB; have HO223 := n0_; have HO241 := n1_; have HO247 := n2_; have HO250 := n3_; have HO253 := n4_; have BK205 := n5_; have HB := n6_; clear n0_ n1_ n2_ n3_ n4_ n5_ n6_; (try clear hb); (try clear hb2); (try clear hk); (try clear hi); (try clear ho0); obtain ⟨Ao56, co56, eo56⟩ := Kd.R_slice HO253.out; subst eo56) | ((with_reducible refine gate_builtin (b := .append) (xs := #[.tmp 79, .tmp 84]) rfl ?_); at_builtin; refine Kd.R_append_rows (Kd.int .u8) (w0 := w) w.heap.size rfl (.tmp 79) (.tmp 84) 22 5 (.int .u8 0) 1 rfl Tryd.underlying22 info5 rfl (by decide) (by omega) v249 y248 t251 _ _ _ (fun k_ => some k_ ≠ (.slice Ao38 t221.length co38 : Value).ownBlock ∧ some k_ ≠ (.slice Ao48 t239.length co48 : Value).ownBlock ∧ some k_ ≠ (.slice Ao52 t245.length co52 : Value).ownBlock ∧ some k_ ≠ (.slice Ao56 t251.length co56 : Value).ownBlock) (fun _ => False) rfl rfl ?aO ?aR (fun _ _ h => h) (fun _ h => h.elim) ?aF ?aB ?aS ?aL ?_; (case aR => repeat (first | exact (Kd.R_reads' HO253.out).2.2 | (with_reducible refine Kd.C_alloc ?_ _) | (with_reducible refine Kd.C_drewN ?_ _) | (with_reducible refine Kd.C_drew ?_))); (case aB => exact (by qb1_ GE205)); (case aF => exact (fun k_ hk => ⟨Kd.fresh' (Kd.R_lt (by qR_; exact HO223.out)) k_ hk, Kd.fresh' (Kd.R_lt (by qR_; exact HO241.out)) k_ hk, Kd.fresh' (Kd.R_lt (by qR_; exact HO247.out)) k_ hk, Kd.fresh' (Kd.R_lt (by qR_; exact HO253.out)) k_ hk⟩)); (case aO => exact (by qR_; exact Kd.R_mono HO250.out (fun _ hk => ⟨hk.1.1, ⟨hk.1.2.1, ⟨hk.1.2.2, hk.2⟩⟩⟩))); (case aS => exact (below_size (by qb1_ GE205))); (case aL => have := LMc29.out; omega); intro v255 w55 ho hb hg hat; rw [← Ny254.out] at ho; have n0_ := Aside0.mk (blk_grown (g := gb205) (o := (om120_)) (by qk_; exact BK205.out) hg (Kd.R_ne HO250.out BK205.out (by decide))); have n1_ := Aside0.mk (Kd.R_after (ok := (fun k_ => some k_ ≠ (.slice Ao48 t239.length co48 : Value).ownBlock ∧ some k_ ≠ (.slice Ao52 t245.length co52 : Value).ownBlock ∧ some k_ ≠ (.slice Ao56 t251.length co56 : Value).ownBlock)) (by qR_; exact Kd.R_mono HO223.out (fun _ hk => ⟨⟨hk.1.1.1, ⟨hk.1.1.2, hk.2⟩⟩, hk.1.2⟩)) hg hat); have n2_ := Aside0.mk (Kd.R_after (ok := (fun k_ => some k_ ≠ (.slice Ao38 t221.length co38 : Value).ownBlock ∧ some k_ ≠ (.slice Ao52 t245.length co52 : Value).ownBlock ∧ some k_ ≠ (.slice Ao56 t251.length co56 : Value).ownBlock)) (by qR_; exact Kd.R_mono HO241.out (fun _ hk => ⟨⟨hk.1.1.1, ⟨hk.1.1.2, hk.2⟩⟩, hk.1.2⟩)) hg hat); have n3_ := Aside0.mk (Kd.R_after (ok := (fun k_ => some k_ ≠ (.slice Ao38 t221.length co38 : Value).ownBlock ∧ some k_ ≠ (.slice Ao48 t239.length co48 : Value).ownBlock ∧ some k_ ≠ (.slice Ao56 t251.length co56 : Value).ownBlock)) (by qR_; exact Kd.R_mono HO247.out (fun _ hk => ⟨⟨hk.1.1.1, ⟨hk.1.1.2, hk.2⟩⟩, hk.1.2⟩)) hg hat); have n4_ := Aside0.mk (Kd.R_after (ok := (fun k_ => some k_ ≠ (.slice Ao38 t221.length co38 : Value).ownBlock ∧ some k_ ≠ (.slice Ao48 t239.length co48 : Value).ownBlock ∧ some k_ ≠ (.slice Ao52 t245.length co52 : Value).ownBlock)) (by qR_; exact Kd.R_mono HO253.out (fun _ hk => ⟨⟨hk.1.1.1.2, ⟨hk.1.1.2, hk.1.2⟩⟩, hk.2⟩)) hg hat); have n5_ := Aside0.mk (hb); have n6_ := Aside0.mk (ho); clear BK205; clear HO223; clear HO241; clear HO247; clear HO253; clear HB; clear HO250; have BK205 := n0_; have HO223 := n1_; have HO241 := n2_; have HO247 := n3_; have HO253 := n4_; have HB := n5_; have HO256 := n6_; clear n0_ n1_ n2_ n3_ n4_ n5_ n6_; clear ho hb hg hat))
           go_ret
           exact ⟨_, by first | rfl | (simp [errW_none, errW_some] <;> rfl) | (simp [*, errW_none, errW_some] <;> rfl), by qR_; exact Kd.R_mono HO256.out (fun _ hk => trivial), by qb1_ GE205⟩
          ·rw [if_neg c29] at H
           exact absurd H (by simp)
         ·rw [if_neg c27] at H
          exact absurd H (by simp)
        ·rw [if_neg c25] at H
         exact absurd H (by simp)
       ·rw [if_neg c23] at H
        have c23b0 : (a0_0 == 0) = false := beq_eq_false_iff_ne.mpr c23
        have c23b1 : (a0_0 != 0) = true := bne_iff_ne.mpr c23
        replace H := Option.bind_eq_some_iff.mp H
        obtain ⟨t257, A570, H⟩ := H
        replace H : (if y236.length + t257.length < 140737488355328 then ((some (y236 ++ t257 : List Int)).bind fun y260 => ((shibbolethref05_Big.f k a0_6 a0_7).bind fun t263 => (if y260.length + t263.length < 140737488355328 then (some (y260 ++ t263)) else (none)))) else (none)) = some r := H
        have A57 := Aside0.mk A570
        clear A570
        by_cases c58 : y236.length + t257.length < 140737488355328
        ·rw [if_pos c58] at H
         have LMc58 := Aside0.mk c58
         clear c58
         obtain ⟨y260, hy260⟩ : ∃ y_ : List Int, y_ = (y236 ++ t257) := ⟨_, rfl⟩
         replace H : ((shibbolethref05_Big.f k a0_6 a0_7).bind fun t263 => (if y260.length + t263.length < 140737488355328 then (some (y260 ++ t263)) else (none))) = some r := by first | (rw [hy260]; with_reducible exact H) | (have H2_ := (Option.bind_some _ _).symm.trans H; rw [hy260]; with_reducible exact H2_) | (have H2_ := (Option.bind_some _ _).symm.trans H; with_reducible exact H2_) | with_reducible exact H | (rw [hy260]; exact H) | exact H
         have Ny260 := Aside0.mk hy260
         clear hy260
         replace H := Option.bind_eq_some_iff.mp H
         obtain ⟨t263, A590, H⟩ := H
         replace H : (if y260.length + t263.length < 140737488355328 then (some (y260 ++ t263)) else (none)) = some r := H
         have A59 := Aside0.mk A590
         clear A590
         by_cases c60 : y260.length + t263.length < 140737488355328
         ·rw [if_pos c60] at H
          have LMc60 := Aside0.mk c60
          clear c60
          obtain ⟨y266, hy266⟩ : ∃ y_ : List Int, y_ = (y260 ++ t263) := ⟨_, rfl⟩
          replace H : (some y266) = some r := by first | (rw [hy266]; with_reducible exact H) | (have H2_ := (Option.bind_some _ _).symm.trans H; rw [hy266]; with_reducible exact H2_) | (have H2_ := (Option.bind_some _ _).symm.trans H; with_reducible exact H2_) | with_reducible exact H | (rw [hy266]; exact H) | exact H
          have Ny266 := Aside0.mk hy266
          clear hy266
          obtain rfl := Option.some.inj H
          go_enter Tryd.func40, Tryd.ntmps40
          try go_wp2_with (first | ((with_reducible refine gate_dst (N := 2) rfl ?_); refine box_event ?hg (N := 2) ?hd (cs := #[.int .i64 a0_0, .int .i64 a0_1, .slice A0_2 l0_2.length c0_2, .slice A0_3 l0_3.length c0_3, .slice A0_4 l0_4.length c0_4, .int .i64 a0_5, .int .i64 a0_6, .int .i64 a0_7]) (t := 44) ?hr ?_; (case hd => rfl); (case hg => rfl); (case hr => first | (go_simp; done) | (go_simp; rfl)); intro gb205 hg w61 hbox hb; have n0_ := Aside0.mk (below_step (by qc0_) hb); have n1_ := Aside0.mk (hbox); have n2_ := Aside0.mk ((by rw [hg]; exact (below_size (by qc0_)) : w.heap.size ≤ gb205)); have n3_ := Aside0.mk ((by rw [hg]; exact (below_size (by qc0_)) : w.heap.size ≤ gb205)); clear HB; have HB := n0_; have BK205 := n1_; have GW205 := n2_; have GE205 := n3_; clear n0_ n1_ n2_ n3_; clear hb hbox hg; have hcz62_0 : w61.cell? ⟨gb205, 0, none⟩ = some (.int .i64 a0_0) := (blk_cell BK205.out 0).trans rfl; have hcz62_1 : w61.cell? ⟨gb205, 1, none⟩ = some (.int .i64 a0_1) := (blk_cell BK205.out 1).trans rfl; have hcz62_2 : w61.cell? ⟨gb205, 2, none⟩ = some (.slice A0_2 l0_2.length c0_2) := (blk_cell BK205.out 2).trans rfl; have hcz62_3 : w61.cell? ⟨gb205, 3, none⟩ = some (.slice A0_3 l0_3.length c0_3) := (blk_cell BK205.out 3).trans rfl; have hcz62_4 : w61.cell? ⟨gb205, 4, none⟩ = some (.slice A0_4 l0_4.length c0_4) := (blk_cell BK205.out 4).trans rfl; have hcz62_5 : w61.cell? ⟨gb205, 5, none⟩ = some (.int .i64 a0_5) := (blk_cell BK205.out 5).trans rfl; have hcz62_6 : w61.cell? ⟨gb205, 6, none⟩ = some (.int .i64 a0_6) := (blk_cell BK205.out 6).trans rfl; have hcz62_7 : w61.cell? ⟨gb205, 7, none⟩ = some (.int .i64 a0_7) := (blk_cell BK205.out 7).trans rfl; have hfz62_0 := blk_frozen BK205.out 0; have hfz62_1 := blk_frozen BK205.out 1; have hfz62_2 := blk_frozen BK205.out 2; have hfz62_3 := blk_frozen BK205.out 3; have hfz62_4 := blk_frozen BK205.out 4; have hfz62_5 := blk_frozen BK205.out 5; have hfz62_6 := blk_frozen BK205.out 6; have hfz62_7 := blk_frozen BK205.out 7))
          have n0_ := Aside0.mk (blk_drew BK205.out)
          have n1_ := Aside0.mk (below_drew1 HB.out)
          clear BK205
          clear HB
          have BK205 := n0_
          have HB := n1_
          clear n0_ n1_
          refine start_ (n := 15) (S := fun w' => w'.cell? ⟨gb205, 0, none⟩ = some (.int .i64 a0_0) ∧ w'.cell? ⟨gb205, 1, none⟩ = some (.int .i64 a0_1) ∧ w'.cell? ⟨gb205, 2, none⟩ = some (.slice A0_2 l0_2.length c0_2) ∧ w'.cell? ⟨gb205, 3, none⟩ = some (.slice A0_3 l0_3.length c0_3) ∧ w'.cell? ⟨gb205, 4, none⟩ = some (.slice A0_4 l0_4.length c0_4) ∧ w'.cell? ⟨gb205, 5, none⟩ = some (.int .i64 a0_5) ∧ w'.cell? ⟨gb205, 6, none⟩ = some (.int .i64 a0_6) ∧ w'.cell? ⟨gb205, 7, none⟩ = some (.int .i64 a0_7)) (ds := []) #[false, false, false, false, false, false, false, false, false, false, false, false, false, false, false] (by kernel_rfl) rfl rfl ⟨(blk_cell BK205.out 0).trans rfl, (blk_cell BK205.out 1).trans rfl, (blk_cell BK205.out 2).trans rfl, (blk_cell BK205.out 3).trans rfl, (blk_cell BK205.out 4).trans rfl, (blk_cell BK205.out 5).trans rfl, (blk_cell BK205.out 6).trans rfl, (blk_cell BK205.out 7).trans rfl⟩ (fun hHeld => ?_); refine with_tabW shibbolethref05_Write.tab4 shibbolethref05_Write.bits4 (fun HT_ HW_ => ?_)
          generalize w61.drew = w63 at BK205 HB hHeld ⊢
          refine pure_ (i := 0) (N := some 30) (v := ?_) (a' := ?_) #[true, false, false, false, false, false, false, false, false, false, false, false, false, false, false] rfl rfl (any_of HT_.out (by kernel_rfl)) (fun _ _ _ h => h) (Or.inl ⟨by rfl, ?_⟩) ?_ ?_
          rotate_left
          ·intro w'
           go_simp
           with_reducible rfl
          rotate_left
          ·qp_
           rfl
          refine pure_ (i := 4) (N := some 34) (v := ?_) (a' := ?_) #[true, false, false, false, true, false, false, false, false, false, false, false, false, false, false] rfl rfl (any_of HT_.out (by kernel_rfl)) (fun _ _ _ h => h) (Or.inl ⟨by rfl, ?_⟩) ?_ ?_
          rotate_left
          ·intro w'
           go_simp
           with_reducible rfl
          rotate_left
          ·qp_
           rfl
          refine pure_ (i := 10) (N := some 40) (v := ?_) (a' := ?_) #[true, false, false, false, true, false, false, false, false, false, true, false, false, false, false] rfl rfl (any_of HT_.out (by kernel_rfl)) (fun _ _ _ h => h) (Or.inl ⟨by rfl, ?_⟩) ?_ ?_
          rotate_left
          ·intro w'
           go_simp
           with_reducible rfl
          rotate_left
          ·qp_
           rfl
          refine take_ (i := 1) (N := some 31) (v := ?_) (a' := ?_) #[true, true, false, false, true, false, false, false, false, false, true, false, false, false, false] rfl rfl (take_ofW HT_.out HW_.out (by kernel_rfl)) (fun _ _ _ h => h) (Or.inl ⟨by rfl, ?_⟩) hHeld ?_ ?_
          rotate_left
          ·rintro w' ⟨s0, s1, s2, s3, s4, s5, s6, s7⟩
           go_simp
           with_reducible rfl
          rotate_left
          ·qp_
           rfl
          refine pure_ (i := 2) (N := some 32) (v := ?_) (a' := ?_) #[true, true, true, false, true, false, false, false, false, false, true, false, false, false, false] rfl rfl (any_of HT_.out (by kernel_rfl)) (fun _ _ _ h => h) (Or.inl ⟨by rfl, ?_⟩) ?_ ?_
          rotate_left
          ·intro w'
           go_simp
           with_reducible rfl
          rotate_left
          ·qp_
           rfl
          refine pure_ (i := 3) (N := some 33) (v := ?_) (a' := ?_) #[true, true, true, true, true, false, false, false, false, false, true, false, false, false, false] rfl rfl (any_of HT_.out (by kernel_rfl)) (fun _ _ _ h => h) (Or.inl ⟨by rfl, ?_⟩) ?_ ?_
          rotate_left
          ·intro w'
           go_simp
           with_reducible rfl
          rotate_left
          ·qp_
           rfl
          refine take_ (i := 5) (N := some 35) (v := ?_) (a' := ?_) #[true, true, true, true, true, true, false, false, false, false, true, false, false, false, false] rfl rfl (take_ofW HT_.out HW_.out (by kernel_rfl)) (fun _ _ _ h => h) (Or.inl ⟨by rfl, ?_⟩) hHeld ?_ ?_
          rotate_left
          ·rintro w' ⟨s0, s1, s2, s3, s4, s5, s6, s7⟩
           go_simp
           with_reducible rfl
          rotate_left
          ·qp_
           rfl
          refine pure_ (i := 6) (N := some 36) (v := ?_) (a' := ?_) #[true, true, true, true, true, true, true, false, false, false, true, false, false, false, false] rfl rfl (any_of HT_.out (by kernel_rfl)) (fun _ _ _ h => h) (Or.inl ⟨by rfl, ?_⟩) ?_ ?_
          rotate_left
          ·intro w'
           go_simp
           with_reducible rfl
          rotate_left
          ·qp_
           rfl
          refine pure_ (i := 7) (N := some 37) (v := ?_) (a' := ?_) #[true, true, true, true, true, true, true, true, false, false, true, false, false, false, false] rfl rfl (any_of HT_.out (by kernel_rfl)) (fun _ _ _ h => h) (Or.inl ⟨by rfl, ?_⟩) ?_ ?_
          rotate_left
          ·intro w'
           go_simp
           with_reducible rfl
          rotate_left
          ·qp_
           rfl
          refine pure_ (i := 8) (N := some 38) (v := ?_) (a' := ?_) #[true, true, true, true, true, true, true, true, true, false, true, false, false, false, false] rfl rfl (any_of HT_.out (by kernel_rfl)) (fun _ _ _ h => h) (Or.inl ⟨by rfl, ?_⟩) ?_ ?_
          rotate_left
          ·intro w'
           go_simp
           with_reducible rfl
          rotate_left
          ·qp_
           rfl
          refine take_ (i := 11) (N := some 41) (v := ?_) (a' := ?_) #[true, true, true, true, true, true, true, true, true, false, true, true, false, false, false] rfl rfl (take_ofW HT_.out HW_.out (by kernel_rfl)) (fun _ _ _ h => h) (Or.inl ⟨by rfl, ?_⟩) hHeld ?_ ?_
          rotate_left
          ·rintro w' ⟨s0, s1, s2, s3, s4, s5, s6, s7⟩
           go_simp
           with_reducible rfl
          rotate_left
          ·qp_
           rfl
          refine join_ (σ := Value × Value) 2 #[true, true, true, true, true, true, true, true, true, true, true, true, true, false, false] (fun s_ => [(39, s_.1), (42, s_.2)]) (fun s_ w' => (w'.cell? ⟨gb205, 0, none⟩ = some (.int .i64 a0_0) ∧ w'.cell? ⟨gb205, 1, none⟩ = some (.int .i64 a0_1) ∧ w'.cell? ⟨gb205, 2, none⟩ = some (.slice A0_2 l0_2.length c0_2) ∧ w'.cell? ⟨gb205, 3, none⟩ = some (.slice A0_3 l0_3.length c0_3) ∧ w'.cell? ⟨gb205, 4, none⟩ = some (.slice A0_4 l0_4.length c0_4) ∧ w'.cell? ⟨gb205, 5, none⟩ = some (.int .i64 a0_5) ∧ w'.cell? ⟨gb205, 6, none⟩ = some (.int .i64 a0_6) ∧ w'.cell? ⟨gb205, 7, none⟩ = some (.int .i64 a0_7)) ∧ (Kd.R (Kd.int .u8) 5 w' w.heap.size (fun k_ => some k_ ≠ (s_.2 : Value).ownBlock) s_.1 y218) ∧ (Kd.R (Kd.int .u8) 5 w' w.heap.size (fun k_ => some k_ ≠ (s_.1 : Value).ownBlock) s_.2 t221) ∧ (w'.heap[gb205]? = some ((om120_))) ∧ (Below w.heap.size w w')) ?_ ?_
          rotate_left
          ·intro hCont
           refine two_ (i := 9) (j := 12) (Ni := some 39) (Nj := some 42) #[true, true, true, true, true, true, true, true, true, true, true, true, false, false, false] #[true, true, true, true, true, true, true, true, true, false, true, true, true, false, false] rfl rfl rfl rfl (two_of HT_.out (by kernel_rfl)) (by decide) (by decide) (fun K hK => ?_) (fun K hK => ?_)
           ·skip
            lm120_
            intro v219 w64 ho65 hb hg_ hnew_
            clear hg_ hnew_
            (first | rw [← Ny218.out] at ho65 | (simp only [Int.reduceToNat] at ho65; rw [← Ny218.out] at ho65))
            have n0_ := Aside0.mk (Kd.R_lower ho65 (below_size (by qb1_ GE205)))
            lm121_
            have n2_ := Aside0.mk (below_step (by qb1_ GE205) hb)
            clear BK205
            clear HB
            have HO220 := n0_
            have BK205 := n1_
            have HB := n2_
            clear n0_ n1_ n2_
            clear hb ho65
            lm122_
            clear hK K
            refine norm_ (a' := ?_) ?_ ?_
            rotate_left
            ·show Act.put _ (some 39) _ = _
             qp_
             rfl
            refine one_ (i := 12) (N := some 42) #[true, true, true, true, true, true, true, true, true, true, true, true, true, false, false] rfl rfl (one_of HT_.out (by kernel_rfl)) (by decide) (fun K hK => ?_)
            lm123_
            with_reducible refine (shibbolethref05_Big.calls k a0_1 4 t221 _ A17.out).mono ?_
            rintro e w66 ⟨v222, rfl, ho0, hb⟩
            refine ⟨_, rfl, ?_⟩
            have n0_ := Aside0.mk (Kd.R_elder' (by qR_; exact HO220.out) (Kd.R_base ho0) hb)
            have n1_ := Aside0.mk (Kd.R_lower (Kd.R_new' ho0 (Kd.R_lt (by qR_; exact HO220.out))) (below_size (by qb1_ GE205)))
            lm124_
            have n3_ := Aside0.mk (below_step (by qb1_ GE205) hb)
            clear HO220
            clear BK205
            clear HB
            have HO220 := n0_
            have HO223 := n1_
            have BK205 := n2_
            have HB := n3_
            clear n0_ n1_ n2_ n3_
            (try clear hb)
            (try clear hb2)
            (try clear hk)
            (try clear hi)
            (try clear ho0)
            lm122_
            clear hK K
            refine norm_ (a' := ?_) ?_ ?_
            rotate_left
            ·show Act.put _ (some 42) _ = _
             qp_
             rfl
            lm125_
           ·skip
            lm123_
            with_reducible refine (shibbolethref05_Big.calls k a0_1 4 t221 _ A17.out).mono ?_
            rintro e w64 ⟨v222, rfl, ho0, hb⟩
            refine ⟨_, rfl, ?_⟩
            have n0_ := Aside0.mk (Kd.R_lower ho0 (below_size (by qb1_ GE205)))
            lm121_
            have n2_ := Aside0.mk (below_step (by qb1_ GE205) hb)
            clear BK205
            clear HB
            have HO223 := n0_
            have BK205 := n1_
            have HB := n2_
            clear n0_ n1_ n2_
            (try clear hb)
            (try clear hb2)
            (try clear hk)
            (try clear hi)
            (try clear ho0)
            lm122_
            clear hK K
            refine norm_ (a' := ?_) ?_ ?_
            rotate_left
            ·show Act.put _ (some 42) _ = _
             qp_
             rfl
            refine one_ (i := 9) (N := some 39) #[true, true, true, true, true, true, true, true, true, true, true, true, true, false, false] rfl rfl (one_of HT_.out (by kernel_rfl)) (by decide) (fun K hK => ?_)
            lm120_
            intro v219 w65 ho66 hb hg_ hnew_
            clear hg_ hnew_
            (first | rw [← Ny218.out] at ho66 | (simp only [Int.reduceToNat] at ho66; rw [← Ny218.out] at ho66))
            have n0_ := Aside0.mk (Kd.R_elder' (by qR_; exact HO223.out) (Kd.R_base ho66) hb)
            have n1_ := Aside0.mk (Kd.R_lower (Kd.R_new' ho66 (Kd.R_lt (by qR_; exact HO223.out))) (below_size (by qb1_ GE205)))
            lm124_
            have n3_ := Aside0.mk (below_step (by qb1_ GE205) hb)
            clear HO223
            clear BK205
            clear HB
            have HO223 := n0_
            have HO220 := n1_
            have BK205 := n2_
            have HB := n3_
            clear n0_ n1_ n2_ n3_
            clear hb ho66
            lm122_
            clear hK K
            refine norm_ (a' := ?_) ?_ ?_
            rotate_left
            ·show Act.put _ (some 39) _ = _
             qp_
             rfl
            lm125_
          rintro ⟨v219, v222⟩ w67 ⟨hS_, h0_, h1_, h2_, h3_⟩
          have n0_ : Aside0 (Kd.R (Kd.int .u8) 5 w67 w.heap.size (fun k_ => some k_ ≠ (v222 : Value).ownBlock) v219 y218) := ⟨h0_⟩
          have n1_ : Aside0 (Kd.R (Kd.int .u8) 5 w67 w.heap.size (fun k_ => some k_ ≠ (v219 : Value).ownBlock) v222 t221) := ⟨h1_⟩
          have n2_ : Aside0 (w67.heap[gb205]? = some ((om120_))) := ⟨h2_⟩
          have n3_ : Aside0 (Below w.heap.size w w67) := ⟨h3_⟩
          clear BK205
          clear HB
          clear h0_ h1_ h2_ h3_
          have HO220 := n0_
          have HO223 := n1_
          have BK205 := n2_
          have HB := n3_
          clear n0_ n1_ n2_ n3_
          have hHeld : w67.cell? ⟨gb205, 0, none⟩ = some (.int .i64 a0_0) ∧ w67.cell? ⟨gb205, 1, none⟩ = some (.int .i64 a0_1) ∧ w67.cell? ⟨gb205, 2, none⟩ = some (.slice A0_2 l0_2.length c0_2) ∧ w67.cell? ⟨gb205, 3, none⟩ = some (.slice A0_3 l0_3.length c0_3) ∧ w67.cell? ⟨gb205, 4, none⟩ = some (.slice A0_4 l0_4.length c0_4) ∧ w67.cell? ⟨gb205, 5, none⟩ = some (.int .i64 a0_5) ∧ w67.cell? ⟨gb205, 6, none⟩ = some (.int .i64 a0_6) ∧ w67.cell? ⟨gb205, 7, none⟩ = some (.int .i64 a0_7) := hS_
          obtain ⟨Ao69, co69, eo69⟩ := Kd.R_slice HO223.out
          (first | subst eo69 | (injection eo69 with f1_ f2_ f3_; have f4_ := f1_.symm; have f5_ := f3_.symm; clear f1_ f2_ f3_; subst f4_; subst f5_))
          refine norm_ (a' := ?_) ?_ ?_
          rotate_left
          ·simp only [putAll, Act.put, List.setIfInBounds_toArray, List.set_cons_zero, List.set_cons_succ]
           rfl
          refine one_ (i := 13) (N := some 43) #[true, true, true, true, true, true, true, true, true, true, true, true, true, true, false] rfl rfl (one_of HT_.out (by kernel_rfl)) (by decide) (fun K hK => ?_)
          refine Kd.R_append_rows_step (Kd.int .u8) (w0 := w) w.heap.size (by rfl) (.tmp 39) (.tmp 42) 22 5 (.int .u8 0) 1 rfl Tryd.underlying22 info5 rfl (by decide) (by omega) v219 y218 t221 _ _ _ (fun k_ => some k_ ≠ (.slice Ao69 t221.length co69 : Value).ownBlock) (fun _ => False) rfl rfl ?aO ?aR (fun _ _ h => h) (fun _ h => h.elim) ?aF ?aB ?aS ?aL ?_
          (case aR => repeat (first | exact (Kd.R_reads' HO223.out).2.2 | (with_reducible refine Kd.C_alloc ?_ _) | (with_reducible refine Kd.C_drewN ?_ _) | (with_reducible refine Kd.C_drew ?_)))
          (case aB => exact (by qb1_ GE205))
          lm126_
          (case aO => exact (by qR_; exact HO220.out))
          (case aS => exact (below_size (by qb1_ GE205)))
          (case aL => have := LMc18.out; omega)
          intro v225 w68 ho hb hg hat
          rw [← Ny224.out] at ho
          have n0_ := Aside0.mk (blk_grown (g := gb205) (o := (om120_)) (by qk_; exact BK205.out) hg (Kd.R_ne HO220.out BK205.out (by decide)))
          have n1_ := Aside0.mk (Kd.R_after (ok := (fun _ => True)) (by qR_; exact Kd.R_mono HO223.out (fun _ hk => ⟨trivial, hk⟩)) hg hat)
          have n2_ := Aside0.mk (hb)
          have n3_ := Aside0.mk (ho)
          clear BK205
          clear HO223
          clear HB
          clear HO220
          have BK205 := n0_
          have HO223 := n1_
          have HB := n2_
          have HO226 := n3_
          clear n0_ n1_ n2_ n3_
          clear ho hb hg hat
          lm122_
          clear hK K
          refine norm_ (a' := ?_) ?_ ?_
          rotate_left
          ·show Act.put _ (some 43) _ = _
           qp_
           rfl
          refine pure_ (i := 14) (N := some 6) (v := ?_) (a' := ?_) #[true, true, true, true, true, true, true, true, true, true, true, true, true, true, true] rfl rfl (any_of HT_.out (by kernel_rfl)) (fun _ _ _ h => h) (Or.inl ⟨by rfl, ?_⟩) ?_ ?_
          rotate_left
          ·intro w'
           go_simp
           with_reducible rfl
          rotate_left
          ·qp_
           rfl
          refine done_ (done_of HT_.out (by kernel_rfl)) ?_
          try go_wp2
          have n0_ := Aside0.mk (Kd.R_drew HO223.out)
          have n1_ := Aside0.mk (Kd.R_drew HO226.out)
          have n2_ := Aside0.mk (blk_drew BK205.out)
          have n3_ := Aside0.mk (below_drew1 HB.out)
          clear HO223
          clear HO226
          clear BK205
          clear HB
          have HO223 := n0_
          have HO226 := n1_
          have BK205 := n2_
          have HB := n3_
          clear n0_ n1_ n2_ n3_
          refine start_ (n := 11) (S := fun w' => w'.cell? ⟨gb205, 0, none⟩ = some (.int .i64 a0_0) ∧ w'.cell? ⟨gb205, 1, none⟩ = some (.int .i64 a0_1) ∧ w'.cell? ⟨gb205, 2, none⟩ = some (.slice A0_2 l0_2.length c0_2) ∧ w'.cell? ⟨gb205, 3, none⟩ = some (.slice A0_3 l0_3.length c0_3) ∧ w'.cell? ⟨gb205, 4, none⟩ = some (.slice A0_4 l0_4.length c0_4) ∧ w'.cell? ⟨gb205, 5, none⟩ = some (.int .i64 a0_5) ∧ w'.cell? ⟨gb205, 6, none⟩ = some (.int .i64 a0_6) ∧ w'.cell? ⟨gb205, 7, none⟩ = some (.int .i64 a0_7)) (ds := []) #[false, false, false, false, false, false, false, false, false, false, false] (by kernel_rfl) rfl rfl ⟨(blk_cell BK205.out 0).trans rfl, (blk_cell BK205.out 1).trans rfl, (blk_cell BK205.out 2).trans rfl, (blk_cell BK205.out 3).trans rfl, (blk_cell BK205.out 4).trans rfl, (blk_cell BK205.out 5).trans rfl, (blk_cell BK205.out 6).trans rfl, (blk_cell BK205.out 7).trans rfl⟩ (fun hHeld => ?_); refine with_tabW shibbolethref05_Write.tab5 shibbolethref05_Write.bits5 (fun HT_ HW_ => ?_)
          generalize w68.drew = w70 at HO223 HO226 BK205 HB hHeld ⊢
          refine pure_ (i := 0) (N := some 44) (v := ?_) (a' := ?_) #[true, false, false, false, false, false, false, false, false, false, false] rfl rfl (any_of HT_.out (by kernel_rfl)) (fun _ _ _ h => h) (Or.inl ⟨by rfl, ?_⟩) ?_ ?_
          rotate_left
          ·intro w'
           go_simp
           with_reducible rfl
          rotate_left
          ·qp_
           rfl
          refine pure_ (i := 1) (N := some 45) (v := ?_) (a' := ?_) #[true, true, false, false, false, false, false, false, false, false, false] rfl rfl (any_of HT_.out (by kernel_rfl)) (fun _ _ _ h => h) (Or.inl ⟨by rfl, ?_⟩) ?_ ?_
          rotate_left
          ·intro w'
           go_simp
           with_reducible rfl
          rotate_left
          ·qp_
           rfl
          refine pure_ (i := 7) (N := some 51) (v := ?_) (a' := ?_) #[true, true, false, false, false, false, false, true, false, false, false] rfl rfl (any_of HT_.out (by kernel_rfl)) (fun _ _ _ h => h) (Or.inl ⟨by rfl, ?_⟩) ?_ ?_
          rotate_left
          ·intro w'
           go_simp
           with_reducible rfl
          rotate_left
          ·qp_
           rfl
          refine take_ (i := 2) (N := some 46) (v := ?_) (a' := ?_) #[true, true, true, false, false, false, false, true, false, false, false] rfl rfl (take_ofW HT_.out HW_.out (by kernel_rfl)) (fun _ _ _ h => h) (Or.inl ⟨by rfl, ?_⟩) hHeld ?_ ?_
          rotate_left
          ·rintro w' ⟨s0, s1, s2, s3, s4, s5, s6, s7⟩
           go_simp
           with_reducible rfl
          rotate_left
          ·qp_
           rfl
          refine pure_ (i := 3) (N := some 47) (v := ?_) (a' := ?_) #[true, true, true, true, false, false, false, true, false, false, false] rfl rfl (any_of HT_.out (by kernel_rfl)) (fun _ _ _ h => h) (Or.inl ⟨by rfl, ?_⟩) ?_ ?_
          rotate_left
          ·intro w'
           go_simp
           with_reducible rfl
          rotate_left
          ·qp_
           rfl
          refine pure_ (i := 4) (N := some 48) (v := ?_) (a' := ?_) #[true, true, true, true, true, false, false, true, false, false, false] rfl rfl (any_of HT_.out (by kernel_rfl)) (fun _ _ _ h => h) (Or.inl ⟨by rfl, ?_⟩) ?_ ?_
          rotate_left
          ·intro w'
           go_simp
           with_reducible rfl
          rotate_left
          ·qp_
           rfl
          refine take_ (i := 8) (N := some 52) (v := ?_) (a' := ?_) #[true, true, true, true, true, false, false, true, true, false, false] rfl rfl (take_ofW HT_.out HW_.out (by kernel_rfl)) (fun _ _ _ h => h) (Or.inl ⟨by rfl, ?_⟩) hHeld ?_ ?_
          rotate_left
          ·rintro w' ⟨s0, s1, s2, s3, s4, s5, s6, s7⟩
           go_simp
           with_reducible rfl
          rotate_left
          ·qp_
           rfl
          refine one_ (i := 5) (N := some 49) #[true, true, true, true, true, true, false, true, true, false, false] rfl rfl (one_of HT_.out (by kernel_rfl)) (by decide) (fun K hK => ?_)
          refine value_ (w1 := ?_) (v := ?_) (by rfl) rfl ?_ ?_
          rotate_left 2
          ·go_simp
           constructor
           ·rfl
           ·rfl
          lm127_
          clear hK K
          refine norm_ (a' := ?_) ?_ ?_
          rotate_left
          ·show Act.put _ (some 49) _ = _
           qp_
           rfl
          refine one_ (i := 6) (N := some 50) #[true, true, true, true, true, true, true, true, true, false, false] rfl rfl (one_of HT_.out (by kernel_rfl)) (by decide) (fun K hK => ?_)
          refine Kd.R_append_step (Kd.int .u8) (w0 := w) w.heap.size (by rfl) (.tmp 44) (.tmp 49) 22 5 (.int .u8 0) 1 rfl Tryd.underlying22 info5 rfl (by decide) (by omega) v225 y224 (((l0_2.length : Int)) % 256) [.int .u8 (((l0_2.length : Int)) % 256)] (fun k_ => some k_ ≠ (.slice Ao69 t221.length co69 : Value).ownBlock) (fun _ => False) rfl rfl ?aP (fun _ hk => hk.elim) ?aF ?aO ?aB ?aS ?aL ?_
          (case aP => exact rfl)
          (case aB => exact (by qb1_ GE205))
          lm126_
          (case aO => exact (by qR_; exact HO226.out))
          (case aS => exact (below_size (by qb1_ GE205)))
          (case aL => have := LMc19.out; omega)
          intro v228 w71 ho hb hg hat
          rw [← Ny227.out] at ho
          have n0_ := Aside0.mk (blk_grown (g := gb205) (o := (om120_)) (by qk_; exact BK205.out) hg (Kd.R_ne HO226.out BK205.out (by decide)))
          lm128_
          have n2_ := Aside0.mk (hb)
          have n3_ := Aside0.mk (ho)
          clear BK205
          clear HO223
          clear HB
          clear HO226
          have BK205 := n0_
          have HO223 := n1_
          have HB := n2_
          have HO229 := n3_
          clear n0_ n1_ n2_ n3_
          clear ho hb hg hat
          lm122_
          clear hK K
          refine norm_ (a' := ?_) ?_ ?_
          rotate_left
          ·show Act.put _ (some 50) _ = _
           qp_
           rfl
          refine one_ (i := 9) (N := some 53) #[true, true, true, true, true, true, true, true, true, true, false] rfl rfl (one_of HT_.out (by kernel_rfl)) (by decide) (fun K hK => ?_)
          refine Kd.R_append_rows_step (Kd.int .u8) (w0 := w) w.heap.size (by rfl) (.tmp 50) (.tmp 52) 22 5 (.int .u8 0) 1 rfl Tryd.underlying22 info5 rfl (by decide) (by omega) v228 y227 l0_2 _ _ _ (fun k_ => some k_ ≠ (.slice Ao69 t221.length co69 : Value).ownBlock) (fun _ => False) rfl rfl ?aO ?aR (fun _ _ h => h) (fun _ h => h.elim) ?aF ?aB ?aS ?aL ?_
          (case aR => repeat (first | exact (Kd.C_below HR0_2.out HB.out) | exact HR0_2.out | (with_reducible refine Kd.C_alloc ?_ _) | (with_reducible refine Kd.C_drewN ?_ _) | (with_reducible refine Kd.C_drew ?_)))
          (case aB => exact (by qb1_ GE205))
          lm126_
          (case aO => exact (by qR_; exact HO229.out))
          (case aS => exact (below_size (by qb1_ GE205)))
          (case aL => have := LMc20.out; omega)
          intro v231 w72 ho hb hg hat
          rw [← Ny230.out] at ho
          have n0_ := Aside0.mk (blk_grown (g := gb205) (o := (om120_)) (by qk_; exact BK205.out) hg (Kd.R_ne HO229.out BK205.out (by decide)))
          lm128_
          have n2_ := Aside0.mk (hb)
          have n3_ := Aside0.mk (ho)
          clear BK205
          clear HO223
          clear HB
          clear HO229
          have BK205 := n0_
          have HO223 := n1_
          have HB := n2_
          have HO232 := n3_
          clear n0_ n1_ n2_ n3_
          clear ho hb hg hat
          lm122_
          clear hK K
          refine norm_ (a' := ?_) ?_ ?_
          rotate_left
          ·show Act.put _ (some 53) _ = _
           qp_
           rfl
          lm129_
          rotate_left
          ·intro w'
           go_simp
           with_reducible rfl
          rotate_left
          ·qp_
           rfl
          refine done_ (done_of HT_.out (by kernel_rfl)) ?_
          try go_wp2
          have n0_ := Aside0.mk (Kd.R_drew HO223.out)
          have n1_ := Aside0.mk (Kd.R_drew HO232.out)
          have n2_ := Aside0.mk (blk_drew BK205.out)
          have n3_ := Aside0.mk (below_drew1 HB.out)
          clear HO223
          clear HO232
          clear BK205
          clear HB
          have HO223 := n0_
          have HO232 := n1_
          have BK205 := n2_
          have HB := n3_
          clear n0_ n1_ n2_ n3_
          refine start_ (n := 11) (S := fun w' => w'.cell? ⟨gb205, 0, none⟩ = some (.int .i64 a0_0) ∧ w'.cell? ⟨gb205, 1, none⟩ = some (.int .i64 a0_1) ∧ w'.cell? ⟨gb205, 2, none⟩ = some (.slice A0_2 l0_2.length c0_2) ∧ w'.cell? ⟨gb205, 3, none⟩ = some (.slice A0_3 l0_3.length c0_3) ∧ w'.cell? ⟨gb205, 4, none⟩ = some (.slice A0_4 l0_4.length c0_4) ∧ w'.cell? ⟨gb205, 5, none⟩ = some (.int .i64 a0_5) ∧ w'.cell? ⟨gb205, 6, none⟩ = some (.int .i64 a0_6) ∧ w'.cell? ⟨gb205, 7, none⟩ = some (.int .i64 a0_7)) (ds := []) #[false, false, false, false, false, false, false, false, false, false, false] (by kernel_rfl) rfl rfl ⟨(blk_cell BK205.out 0).trans rfl, (blk_cell BK205.out 1).trans rfl, (blk_cell BK205.out 2).trans rfl, (blk_cell BK205.out 3).trans rfl, (blk_cell BK205.out 4).trans rfl, (blk_cell BK205.out 5).trans rfl, (blk_cell BK205.out 6).trans rfl, (blk_cell BK205.out 7).trans rfl⟩ (fun hHeld => ?_); refine with_tabW shibbolethref05_Write.tab6 shibbolethref05_Write.bits6 (fun HT_ HW_ => ?_)
          generalize w72.drew = w73 at HO223 HO232 BK205 HB hHeld ⊢
          refine pure_ (i := 0) (N := some 54) (v := ?_) (a' := ?_) #[true, false, false, false, false, false, false, false, false, false, false] rfl rfl (any_of HT_.out (by kernel_rfl)) (fun _ _ _ h => h) (Or.inl ⟨by rfl, ?_⟩) ?_ ?_
          rotate_left
          ·intro w'
           go_simp
           with_reducible rfl
          rotate_left
          ·qp_
           rfl
          refine pure_ (i := 1) (N := some 55) (v := ?_) (a' := ?_) #[true, true, false, false, false, false, false, false, false, false, false] rfl rfl (any_of HT_.out (by kernel_rfl)) (fun _ _ _ h => h) (Or.inl ⟨by rfl, ?_⟩) ?_ ?_
          rotate_left
          ·intro w'
           go_simp
           with_reducible rfl
          rotate_left
          ·qp_
           rfl
          refine pure_ (i := 7) (N := some 61) (v := ?_) (a' := ?_) #[true, true, false, false, false, false, false, true, false, false, false] rfl rfl (any_of HT_.out (by kernel_rfl)) (fun _ _ _ h => h) (Or.inl ⟨by rfl, ?_⟩) ?_ ?_
          rotate_left
          ·intro w'
           go_simp
           with_reducible rfl
          rotate_left
          ·qp_
           rfl
          refine take_ (i := 2) (N := some 56) (v := ?_) (a' := ?_) #[true, true, true, false, false, false, false, true, false, false, false] rfl rfl (take_ofW HT_.out HW_.out (by kernel_rfl)) (fun _ _ _ h => h) (Or.inl ⟨by rfl, ?_⟩) hHeld ?_ ?_
          rotate_left
          ·rintro w' ⟨s0, s1, s2, s3, s4, s5, s6, s7⟩
           go_simp
           with_reducible rfl
          rotate_left
          ·qp_
           rfl
          refine pure_ (i := 3) (N := some 57) (v := ?_) (a' := ?_) #[true, true, true, true, false, false, false, true, false, false, false] rfl rfl (any_of HT_.out (by kernel_rfl)) (fun _ _ _ h => h) (Or.inl ⟨by rfl, ?_⟩) ?_ ?_
          rotate_left
          ·intro w'
           go_simp
           with_reducible rfl
          rotate_left
          ·qp_
           rfl
          refine pure_ (i := 4) (N := some 58) (v := ?_) (a' := ?_) #[true, true, true, true, true, false, false, true, false, false, false] rfl rfl (any_of HT_.out (by kernel_rfl)) (fun _ _ _ h => h) (Or.inl ⟨by rfl, ?_⟩) ?_ ?_
          rotate_left
          ·intro w'
           go_simp
           with_reducible rfl
          rotate_left
          ·qp_
           rfl
          refine take_ (i := 8) (N := some 62) (v := ?_) (a' := ?_) #[true, true, true, true, true, false, false, true, true, false, false] rfl rfl (take_ofW HT_.out HW_.out (by kernel_rfl)) (fun _ _ _ h => h) (Or.inl ⟨by rfl, ?_⟩) hHeld ?_ ?_
          rotate_left
          ·rintro w' ⟨s0, s1, s2, s3, s4, s5, s6, s7⟩
           go_simp
           with_reducible rfl
          rotate_left
          ·qp_
           rfl
          refine one_ (i := 5) (N := some 59) #[true, true, true, true, true, true, false, true, true, false, false] rfl rfl (one_of HT_.out (by kernel_rfl)) (by decide) (fun K hK => ?_)
          refine value_ (w1 := ?_) (v := ?_) (by rfl) rfl ?_ ?_
          rotate_left 2
          ·go_simp
           constructor
           ·rfl
           ·rfl
          lm127_
          clear hK K
          refine norm_ (a' := ?_) ?_ ?_
          rotate_left
          ·show Act.put _ (some 59) _ = _
           qp_
           rfl
          refine one_ (i := 6) (N := some 60) #[true, true, true, true, true, true, true, true, true, false, false] rfl rfl (one_of HT_.out (by kernel_rfl)) (by decide) (fun K hK => ?_)
          refine Kd.R_append_step (Kd.int .u8) (w0 := w) w.heap.size (by rfl) (.tmp 54) (.tmp 59) 22 5 (.int .u8 0) 1 rfl Tryd.underlying22 info5 rfl (by decide) (by omega) v231 y230 (((l0_3.length : Int)) % 256) [.int .u8 (((l0_3.length : Int)) % 256)] (fun k_ => some k_ ≠ (.slice Ao69 t221.length co69 : Value).ownBlock) (fun _ => False) rfl rfl ?aP (fun _ hk => hk.elim) ?aF ?aO ?aB ?aS ?aL ?_
          (case aP => exact rfl)
          (case aB => exact (by qb1_ GE205))
          lm126_
          (case aO => exact (by qR_; exact HO232.out))
          (case aS => exact (below_size (by qb1_ GE205)))
          (case aL => have := LMc21.out; omega)
          intro v234 w74 ho hb hg hat
          rw [← Ny233.out] at ho
          have n0_ := Aside0.mk (blk_grown (g := gb205) (o := (om120_)) (by qk_; exact BK205.out) hg (Kd.R_ne HO232.out BK205.out (by decide)))
          lm128_
          have n2_ := Aside0.mk (hb)
          have n3_ := Aside0.mk (ho)
          clear BK205
          clear HO223
          clear HB
          clear HO232
          have BK205 := n0_
          have HO223 := n1_
          have HB := n2_
          have HO235 := n3_
          clear n0_ n1_ n2_ n3_
          clear ho hb hg hat
          lm122_
          clear hK K
          refine norm_ (a' := ?_) ?_ ?_
          rotate_left
          ·show Act.put _ (some 60) _ = _
           qp_
           rfl
          refine one_ (i := 9) (N := some 63) #[true, true, true, true, true, true, true, true, true, true, false] rfl rfl (one_of HT_.out (by kernel_rfl)) (by decide) (fun K hK => ?_)
          refine Kd.R_append_rows_step (Kd.int .u8) (w0 := w) w.heap.size (by rfl) (.tmp 60) (.tmp 62) 22 5 (.int .u8 0) 1 rfl Tryd.underlying22 info5 rfl (by decide) (by omega) v234 y233 l0_3 _ _ _ (fun k_ => some k_ ≠ (.slice Ao69 t221.length co69 : Value).ownBlock) (fun _ => False) rfl rfl ?aO ?aR (fun _ _ h => h) (fun _ h => h.elim) ?aF ?aB ?aS ?aL ?_
          (case aR => repeat (first | exact (Kd.C_below HR0_3.out HB.out) | exact HR0_3.out | (with_reducible refine Kd.C_alloc ?_ _) | (with_reducible refine Kd.C_drewN ?_ _) | (with_reducible refine Kd.C_drew ?_)))
          (case aB => exact (by qb1_ GE205))
          lm126_
          (case aO => exact (by qR_; exact HO235.out))
          (case aS => exact (below_size (by qb1_ GE205)))
          (case aL => have := LMc22.out; omega)
          intro v237 w75 ho hb hg hat
          rw [← Ny236.out] at ho
          have n0_ := Aside0.mk (blk_grown (g := gb205) (o := (om120_)) (by qk_; exact BK205.out) hg (Kd.R_ne HO235.out BK205.out (by decide)))
          lm128_
          have n2_ := Aside0.mk (hb)
          have n3_ := Aside0.mk (ho)
          clear BK205
          clear HO223
          clear HB
          clear HO235
          have BK205 := n0_
          have HO223 := n1_
          have HB := n2_
          have HO238 := n3_
          clear n0_ n1_ n2_ n3_
          clear ho hb hg hat
          lm122_
          clear hK K
          refine norm_ (a' := ?_) ?_ ?_
          rotate_left
          ·show Act.put _ (some 63) _ = _
           qp_
           rfl
          lm129_
          rotate_left
          ·intro w'
           go_simp
           with_reducible rfl
          rotate_left
          ·qp_
           rfl
          refine done_ (done_of HT_.out (by kernel_rfl)) ?_
          have hcz76_0 : w75.cell? ⟨gb205, 0, none⟩ = some (.int .i64 a0_0) := (blk_cell BK205.out 0).trans rfl
          have hcz76_1 : w75.cell? ⟨gb205, 1, none⟩ = some (.int .i64 a0_1) := (blk_cell BK205.out 1).trans rfl
          have hcz76_2 : w75.cell? ⟨gb205, 2, none⟩ = some (.slice A0_2 l0_2.length c0_2) := (blk_cell BK205.out 2).trans rfl
          have hcz76_3 : w75.cell? ⟨gb205, 3, none⟩ = some (.slice A0_3 l0_3.length c0_3) := (blk_cell BK205.out 3).trans rfl
          have hcz76_4 : w75.cell? ⟨gb205, 4, none⟩ = some (.slice A0_4 l0_4.length c0_4) := (blk_cell BK205.out 4).trans rfl
          have hcz76_5 : w75.cell? ⟨gb205, 5, none⟩ = some (.int .i64 a0_5) := (blk_cell BK205.out 5).trans rfl
          have hcz76_6 : w75.cell? ⟨gb205, 6, none⟩ = some (.int .i64 a0_6) := (blk_cell BK205.out 6).trans rfl
          have hcz76_7 : w75.cell? ⟨gb205, 7, none⟩ = some (.int .i64 a0_7) := (blk_cell BK205.out 7).trans rfl
          have hfz76_0 := blk_frozen BK205.out 0
          have hfz76_1 := blk_frozen BK205.out 1
          have hfz76_2 := blk_frozen BK205.out 2
          have hfz76_3 := blk_frozen BK205.out 3
          have hfz76_4 := blk_frozen BK205.out 4
          have hfz76_5 := blk_frozen BK205.out 5
          have hfz76_6 := blk_frozen BK205.out 6
          have hfz76_7 := blk_frozen BK205.out 7
          try go_wp2_with (first | ((with_reducible refine gate_callee (f := 23) rfl ?_); refine goesL_ (some 77) rfl rfl Tryd.func23 (by kernel_rfl) rfl #[.int .i64 (wrap64 (a0_7 + a1))] rfl (by (try simp only [List.map_toArray, List.map_cons, List.map_nil]); first | done | rfl | (simp only [List.length_drop, List.length_take]; rfl)) ?_; (with_reducible refine (shibbolethref01_Bytes.calls k (wrap64 (a0_7 + a1)) t257 _ A57.out).mono ?_); rintro e w77 ⟨v258, rfl, ho0, hb⟩; refine ⟨_, rfl, ?_⟩; have n0_ := Aside0.mk (Kd.R_elder' (by qR_; exact HO223.out) (Kd.R_base ho0) hb); have n1_ := Aside0.mk (Kd.R_elder' (by qR_; exact HO238.out) (Kd.R_base ho0) hb); have n2_ := Aside0.mk (Kd.R_lower (Kd.R_new' (Kd.R_new' ho0 (Kd.R_lt (by qR_; exact HO223.out))) (Kd.R_lt (by qR_; exact HO238.out))) (below_size (by qb1_ GE205))); have n3_ := Aside0.mk (blk_below (g := gb205) (o := (om120_)) (by qk_; exact BK205.out) hb); have n4_ := Aside0.mk (below_step (by qb1_ GE205) hb); clear HO223; clear HO238; clear BK205; clear HB; have HO223 := n0_; have HO238 := n1_; have HO259 := n2_; have BK205 := n3_; have HB := n4_; clear n0_ n1_ n2_ n3_ n4_; (try clear hb); (try clear hb2); (try clear hk); (try clear hi); (try clear ho0); obtain ⟨Ao79, co79, eo79⟩ := Kd.R_slice HO259.out; subst eo79) | ((with_reducible refine gate_builtin (b := .append) (xs := #[.tmp 72, .tmp 77]) rfl ?_); at_builtin; refine Kd.R_append_rows (Kd.int .u8) (w0 := w) w.heap.size rfl (.tmp 72) (.tmp 77) 22 5 (.int .u8 0) 1 rfl Tryd.underlying22 info5 rfl (by decide) (by omega) v237 y236 t257 _ _ _ (fun k_ => some k_ ≠ (.slice Ao69 t221.length co69 : Value).ownBlock ∧ some k_ ≠ (.slice Ao79 t257.length co79 : Value).ownBlock) (fun _ => False) rfl rfl ?aO ?aR (fun _ _ h => h) (fun _ h => h.elim) ?aF ?aB ?aS ?aL ?_; (case aR => repeat (first | exact (Kd.R_reads' HO259.out).2.2 | (with_reducible refine Kd.C_alloc ?_ _) | (with_reducible refine Kd.C_drewN ?_ _) | (with_reducible refine Kd.C_drew ?_))); (case aB => exact (by qb1_ GE205)); (case aF => exact (fun k_ hk => ⟨Kd.fresh' (Kd.R_lt (by qR_; exact HO223.out)) k_ hk, Kd.fresh' (Kd.R_lt (by qR_; exact HO259.out)) k_ hk⟩)); (case aO => exact (by qR_; exact HO238.out)); (case aS => exact (below_size (by qb1_ GE205))); (case aL => have := LMc58.out; omega); intro v261 w78 ho hb hg hat; rw [← Ny260.out] at ho; have n0_ := Aside0.mk (blk_grown (g := gb205) (o := (om120_)) (by qk_; exact BK205.out) hg (Kd.R_ne HO238.out BK205.out (by decide))); have n1_ := Aside0.mk (Kd.R_after (ok := (fun k_ => some k_ ≠ (.slice Ao79 t257.length co79 : Value).ownBlock)) (by qR_; exact Kd.R_mono HO223.out (fun _ hk => ⟨hk.2, hk.1.2⟩)) hg hat); have n2_ := Aside0.mk (Kd.R_after (ok := (fun k_ => some k_ ≠ (.slice Ao69 t221.length co69 : Value).ownBlock)) (by qR_; exact Kd.R_mono HO259.out (fun _ hk => ⟨hk.1.2, hk.2⟩)) hg hat); have n3_ := Aside0.mk (hb); have n4_ := Aside0.mk (ho); clear BK205; clear HO223; clear HO259; clear HB; clear HO238; have BK205 := n0_; have HO223 := n1_; have HO259 := n2_; have HB := n3_; have HO262 := n4_; clear n0_ n1_ n2_ n3_ n4_; clear ho hb hg hat; have hcz80_0 : w78.cell? ⟨gb205, 0, none⟩ = some (.int .i64 a0_0) := (blk_cell BK205.out 0).trans rfl; have hcz80_1 : w78.cell? ⟨gb205, 1, none⟩ = some (.int .i64 a0_1) := (blk_cell BK205.out 1).trans rfl; have hcz80_2 : w78.cell? ⟨gb205, 2, none⟩ = some (.slice A0_2 l0_2.length c0_2) := (blk_cell BK205.out 2).trans rfl; have hcz80_3 : w78.cell? ⟨gb205, 3, none⟩ = some (.slice A0_3 l0_3.length c0_3) := (blk_cell BK205.out 3).trans rfl; have hcz80_4 : w78.cell? ⟨gb205, 4, none⟩ = some (.slice A0_4 l0_4.length c0_4) := (blk_cell BK205.out 4).trans rfl; have hcz80_5 : w78.cell? ⟨gb205, 5, none⟩ = some (.int .i64 a0_5) := (blk_cell BK205.out 5).trans rfl; have hcz80_6 : w78.cell? ⟨gb205, 6, none⟩ = some (.int .i64 a0_6) := (blk_cell BK205.out 6).trans rfl; have hcz80_7 : w78.cell? ⟨gb205, 7, none⟩ = some (.int .i64 a0_7) := (blk_cell BK205.out 7).trans rfl; have hfz80_0 := blk_frozen BK205.out 0; have hfz80_1 := blk_frozen BK205.out 1; have hfz80_2 := blk_frozen BK205.out 2; have hfz80_3 := blk_frozen BK205.out 3; have hfz80_4 := blk_frozen BK205.out 4; have hfz80_5 := blk_frozen BK205.out 5; have hfz80_6 := blk_frozen BK205.out 6; have hfz80_7 := blk_frozen BK205.out 7) | ((with_reducible refine gate_callee (f := 64) rfl ?_); refine goesL_ (some 84) rfl rfl Tryd.func64 (by kernel_rfl) rfl #[.int .i64 a0_6, .int .i64 a0_7] rfl (by (try simp only [List.map_toArray, List.map_cons, List.map_nil]); first | done | rfl | (simp only [List.length_drop, List.length_take]; rfl)) ?_; (with_reducible refine (shibbolethref05_Big.calls k a0_6 a0_7 t263 _ A59.out).mono ?_); rintro e w81 ⟨v264, rfl, ho0, hb⟩; refine ⟨_, rfl, ?_⟩; have n0_ := Aside0.mk (Kd.R_elder' (by qR_; exact HO223.out) (Kd.R_base ho0) hb); have n1_ := Aside0.mk (Kd.R_elder' (by qR_; exact HO259.out) (Kd.R_base ho0) hb); have n2_ := Aside0.mk (Kd.R_elder' (by qR_; exact HO262.out) (Kd.R_base ho0) hb); have n3_ := Aside0.mk (Kd.R_lower (Kd.R_new' (Kd.R_new' (Kd.R_new' ho0 (Kd.R_lt (by qR_; exact HO223.out))) (Kd.R_lt (by qR_; exact HO259.out))) (Kd.R_lt (by qR_; exact HO262.out))) (below_size (by qb1_ GE205))); have n4_ := Aside0.mk (blk_below (g := gb205) (o := (om120_)) (by qk_; exact BK205.out) hb); have n5_ := Aside0.mk (below_step (by qb1_ GE205) hb); clear HO223; clear HO259; clear HO262; clear BK205; clear HB; have HO223 := n0_; have HO259 := n1_; have HO262 := n2_; have HO265 := n3_; have BK205 := n4_; have HB := n5_; clear n0_ n1_ n2_ n3_ n4_ n5_; (try clear hb); (try clear hb2); (try clear hk); (try clear hi); (try clear ho0); obtain ⟨Ao83, co83, eo83⟩ := Kd.R_slice HO265.out; subst eo83) | ((with_reducible refine gate_builtin (b := .append) (xs := #[.tmp 79, .tmp 84]) rfl ?_); at_builtin; refine Kd.R_append_rows (Kd.int .u8) (w0 := w) w.heap.size rfl (.tmp 79) (.tmp 84) 22 5 (.int .u8 0) 1 rfl Tryd.underlying22 info5 rfl (by decide) (by omega) v261 y260 t263 _ _ _ (fun k_ => some k_ ≠ (.slice Ao69 t221.length co69 : Value).ownBlock ∧ some k_ ≠ (.slice Ao79 t257.length co79 : Value).ownBlock ∧ some k_ ≠ (.slice Ao83 t263.length co83 : Value).ownBlock) (fun _ => False) rfl rfl ?aO ?aR (fun _ _ h => h) (fun _ h => h.elim) ?aF ?aB ?aS ?aL ?_; (case aR => repeat (first | exact (Kd.R_reads' HO265.out).2.2 | (with_reducible refine Kd.C_alloc ?_ _) | (with_reducible refine Kd.C_drewN ?_ _) | (with_reducible refine Kd.C_drew ?_))); (case aB => exact (by qb1_ GE205)); (case aF => exact (fun k_ hk => ⟨Kd.fresh' (Kd.R_lt (by qR_; exact HO223.out)) k_ hk, Kd.fresh' (Kd.R_lt (by qR_; exact HO259.out)) k_ hk, Kd.fresh' (Kd.R_lt (by qR_; exact HO265.out)) k_ hk⟩)); (case aO => exact (by qR_; exact Kd.R_mono HO262.out (fun _ hk => ⟨hk.1.1, ⟨hk.1.2, hk.2⟩⟩))); (case aS => exact (below_size (by qb1_ GE205))); (case aL => have := LMc60.out; omega); intro v267 w82 ho hb hg hat; rw [← Ny266.out] at ho; have n0_ := Aside0.mk (blk_grown (g := gb205) (o := (om120_)) (by qk_; exact BK205.out) hg (Kd.R_ne HO262.out BK205.out (by decide))); have n1_ := Aside0.mk (Kd.R_after (ok := (fun k_ => some k_ ≠ (.slice Ao79 t257.length co79 : Value).ownBlock ∧ some k_ ≠ (.slice Ao83 t263.length co83 : Value).ownBlock)) (by qR_; exact Kd.R_mono HO223.out (fun _ hk => ⟨⟨hk.1.1, hk.2⟩, hk.1.2⟩)) hg hat); have n2_ := Aside0.mk (Kd.R_after (ok := (fun k_ => some k_ ≠ (.slice Ao69 t221.length co69 : Value).ownBlock ∧ some k_ ≠ (.slice Ao83 t263.length co83 : Value).ownBlock)) (by qR_; exact Kd.R_mono HO259.out (fun _ hk => ⟨⟨hk.1.1, hk.2⟩, hk.1.2⟩)) hg hat); have n3_ := Aside0.mk (Kd.R_after (ok := (fun k_ => some k_ ≠ (.slice Ao69 t221.length co69 : Value).ownBlock ∧ some k_ ≠ (.slice Ao79 t257.length co79 : Value).ownBlock)) (by qR_; exact Kd.R_mono HO265.out (fun _ hk => ⟨⟨hk.1.1.2, hk.1.2⟩, hk.2⟩)) hg hat); have n4_ := Aside0.mk (hb); have n5_ := Aside0.mk (ho); clear BK205; clear HO223; clear HO259; clear HO265; clear HB; clear HO262; have BK205 := n0_; have HO223 := n1_; have HO259 := n2_; have HO265 := n3_; have HB := n4_; have HO268 := n5_; clear n0_ n1_ n2_ n3_ n4_ n5_; clear ho hb hg hat))
          go_ret
          exact ⟨_, by first | rfl | (simp [errW_none, errW_some] <;> rfl) | (simp [*, errW_none, errW_some] <;> rfl), by qR_; exact Kd.R_mono HO268.out (fun _ hk => trivial), by qb1_ GE205⟩
         ·rw [if_neg c60] at H
          exact absurd H (by simp)
        ·rw [if_neg c58] at H
         exact absurd H (by simp)
      ·rw [if_neg c22] at H
       exact absurd H (by simp)
     ·rw [if_neg c21] at H
      exact absurd H (by simp)
    ·rw [if_neg c20] at H
     exact absurd H (by simp)
   ·rw [if_neg c19] at H
    exact absurd H (by simp)
  ·rw [if_neg c18] at H
   exact absurd H (by simp)
end Go.Proofs.YtbcleckapamicaaDoor.QHe
