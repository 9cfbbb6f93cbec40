/- A part of the proof of the law FrameReads: QFrx2. -/
import Derived.Test.YtbcleckapamicaaDoorZFrd02
namespace Go.Proofs.YtbcleckapamicaaDoor.QFr
open Go.RowKit Go.Proofs.YtbcleckapamicaaDoorW.PrintWords Go.Proofs.YtbcleckapamicaaDoorW.PrintLast Go.Proofs.YtbcleckapamicaaDoorW.PrintMore
attribute [local go_sem] max2_int min2_int max_two min_two max_three min_three max_four min_four
set_option linter.unusedVariables false
set_option linter.unusedSimpArgs false
open Go.Proofs.YtbcleckapamicaaDoor.Gv (varint_Size.f varint_Size.calls)
set_option hygiene false
local macro "oh70_" : term => `(.cells #[.int .i64 ((rd_T103 l0 x7_1).f0), .int .i64 ((rd_T103 l0 x7_1).f1)] 103 (0, 0))
local macro "ph70_" : term => `((by first | (with_reducible assumption) | assumption))
local macro "ph71_" : term => `((by rw [hg]; exact (below_size (by qc0_)) : w.heap.size ≤ gb105))
local macro "ph72_" : term => `((by (try simp only [List.map_toArray, List.map_cons, List.map_nil]); first | done | rfl | (simp only [List.length_drop, List.length_take]; rfl)))
local macro "lh70_" : tactic => `(tactic| (have p104 : 0 ≤ (x7_1 : Int) := of_decide_eq_true (ph70_)))
local macro "lh71_" : tactic => `(tactic| (have q104 : x7_1 < (l0.length : Int) := of_decide_eq_true (ph70_)))
local macro "lh72_" : tactic => `(tactic| (obtain ⟨ad104, e104, hx104_0, hx104_1⟩ := at_T103 HR0.out x7_1 p104 q104))
local macro "lh73_" : tactic => `(tactic| (replace hx104_0 := (HB.out.cell (World.block_lt_of_cell? w _ hx104_0)).trans hx104_0))
local macro "lh74_" : tactic => `(tactic| (replace hx104_1 := (HB.out.cell (World.block_lt_of_cell? w _ hx104_1)).trans hx104_1))
local macro "lh75_" : tactic => `(tactic| (have n0_ := Aside0.mk (blk_drew BK105.out)))
local macro "lh76_" : tactic => `(tactic| (have n1_ := Aside0.mk (below_drew1 HB.out)))
local macro "lh77_" : tactic => `(tactic| (refine start_ (n := 32) (S := fun w' => w'.cell? ⟨gb105, 0, none⟩ = some (.int .i64 ((rd_T103 l0 x7_1).f0)) ∧ w'.cell? ⟨gb105, 1, none⟩ = some (.int .i64 ((rd_T103 l0 x7_1).f1))) (ds := []) #[false, false, false, false, false, false, false, false, false, false, false, false, false, false, false, false, false, false, false, false, false, false, false, false, false, false, false, false, false, false, false, false] (by kernel_rfl) rfl rfl ⟨(blk_cell BK105.out 0).trans rfl, (blk_cell BK105.out 1).trans rfl⟩ (fun hHeld => ?_); refine with_tabW frame_spanned.tab4 frame_spanned.bits4 (fun HT_ HW_ => ?_)))
local macro "lh78_" : tactic => `(tactic| (refine pure_ (i := 0) (N := some 12) (v := ?_) (a' := ?_) #[true, false, false, false, false, false, false, false, false, false, false, false, false, false, false, false, false, false, false, false, false, false, false, false, false, false, false, false, false, false, false, false] rfl rfl (any_of HT_.out (by kernel_rfl)) (fun _ _ _ h => h) (Or.inl ⟨by rfl, ?_⟩) ?_ ?_))
local macro "lh79_" : tactic => `(tactic| (refine take_ (i := 1) (N := some 13) (v := ?_) (a' := ?_) #[true, true, false, false, false, false, false, false, false, false, false, false, false, false, false, false, false, false, false, false, false, false, false, false, false, false, false, false, false, false, false, false] rfl rfl (take_ofW HT_.out HW_.out (by kernel_rfl)) (fun _ _ _ h => h) (Or.inl ⟨by rfl, ?_⟩) hHeld ?_ ?_))
local macro "lh710_" : tactic => `(tactic| (refine pure_ (i := 2) (N := some 14) (v := ?_) (a' := ?_) #[true, true, true, false, false, false, false, false, false, false, false, false, false, false, false, false, false, false, false, false, false, false, false, false, false, false, false, false, false, false, false, false] rfl rfl (any_of HT_.out (by kernel_rfl)) (fun _ _ _ h => h) (Or.inl ⟨by rfl, ?_⟩) ?_ ?_))
local macro "lh711_" : tactic => `(tactic| (refine pure_ (i := 3) (N := some 15) (v := ?_) (a' := ?_) #[true, true, true, true, false, false, false, false, false, false, false, false, false, false, false, false, false, false, false, false, false, false, false, false, false, false, false, false, false, false, false, false] rfl rfl (any_of HT_.out (by kernel_rfl)) (fun _ _ _ h => h) (Or.inl ⟨by rfl, ?_⟩) ?_ ?_))
local macro "lh712_" : tactic => `(tactic| (refine pure_ (i := 9) (N := some 21) (v := ?_) (a' := ?_) #[true, true, true, true, true, true, true, true, true, true, false, false, false, false, false, false, false, false, false, false, false, false, false, false, false, false, false, false, false, false, false, false] rfl rfl (any_of HT_.out (by kernel_rfl)) (fun _ _ _ h => h) (Or.inl ⟨by rfl, ?_⟩) ?_ ?_))
local macro "lh713_" : tactic => `(tactic| (refine pure_ (i := 10) (N := some 22) (v := ?_) (a' := ?_) #[true, true, true, true, true, true, true, true, true, true, true, false, false, false, false, false, false, false, false, false, false, false, false, false, false, false, false, false, false, false, false, false] rfl rfl (any_of HT_.out (by kernel_rfl)) (fun _ _ _ h => h) (Or.inl ⟨by rfl, ?_⟩) ?_ ?_))
local macro "lh714_" : tactic => `(tactic| (refine pure_ (i := 11) (N := some 23) (v := undef) (a' := ?_) #[true, true, true, true, true, true, true, true, true, true, true, true, false, false, false, false, false, false, false, false, false, false, false, false, false, false, false, false, false, false, false, false] rfl rfl (any_of HT_.out (by kernel_rfl)) (fun _ _ _ h => h) (Or.inr ⟨by rfl, rfl⟩) ?_ ?_))
local macro "lh715_" : tactic => `(tactic| (refine pure_ (i := 12) (N := some 24) (v := undef) (a' := ?_) #[true, true, true, true, true, true, true, true, true, true, true, true, true, false, false, false, false, false, false, false, false, false, false, false, false, false, false, false, false, false, false, false] rfl rfl (any_of HT_.out (by kernel_rfl)) (fun _ _ _ h => h) (Or.inr ⟨by rfl, rfl⟩) ?_ ?_))
local macro "lh716_" : tactic => `(tactic| (refine pure_ (i := 13) (N := some 25) (v := undef) (a' := ?_) #[true, true, true, true, true, true, true, true, true, true, true, true, true, true, false, false, false, false, false, false, false, false, false, false, false, false, false, false, false, false, false, false] rfl rfl (any_of HT_.out (by kernel_rfl)) (fun _ _ _ h => h) (Or.inr ⟨by rfl, rfl⟩) ?_ ?_))
local macro "lh717_" : tactic => `(tactic| (refine pure_ (i := 14) (N := some 26) (v := undef) (a' := ?_) #[true, true, true, true, true, true, true, true, true, true, true, true, true, true, true, false, false, false, false, false, false, false, false, false, false, false, false, false, false, false, false, false] rfl rfl (any_of HT_.out (by kernel_rfl)) (fun _ _ _ h => h) (Or.inr ⟨by rfl, rfl⟩) ?_ ?_))
local macro "lh718_" : tactic => `(tactic| (refine pure_ (i := 15) (N := some 27) (v := ?_) (a' := ?_) #[true, true, true, true, true, true, true, true, true, true, true, true, true, true, true, true, false, false, false, false, false, false, false, false, false, false, false, false, false, false, false, false] rfl rfl (any_of HT_.out (by kernel_rfl)) (fun _ _ _ h => h) (Or.inl ⟨by rfl, ?_⟩) ?_ ?_))
local macro "lh719_" : tactic => `(tactic| (refine pure_ (i := 16) (N := some 28) (v := ?_) (a' := ?_) #[true, true, true, true, true, true, true, true, true, true, true, true, true, true, true, true, true, false, false, false, false, false, false, false, false, false, false, false, false, false, false, false] rfl rfl (any_of HT_.out (by kernel_rfl)) (fun _ _ _ h => h) (Or.inl ⟨by rfl, ?_⟩) ?_ ?_))
local macro "lh720_" : tactic => `(tactic| (refine pure_ (i := 17) (N := some 29) (v := undef) (a' := ?_) #[true, true, true, true, true, true, true, true, true, true, true, true, true, true, true, true, true, true, false, false, false, false, false, false, false, false, false, false, false, false, false, false] rfl rfl (any_of HT_.out (by kernel_rfl)) (fun _ _ _ h => h) (Or.inr ⟨by rfl, rfl⟩) ?_ ?_))
local macro "lh721_" : tactic => `(tactic| (refine pure_ (i := 18) (N := some 30) (v := undef) (a' := ?_) #[true, true, true, true, true, true, true, true, true, true, true, true, true, true, true, true, true, true, true, false, false, false, false, false, false, false, false, false, false, false, false, false] rfl rfl (any_of HT_.out (by kernel_rfl)) (fun _ _ _ h => h) (Or.inr ⟨by rfl, rfl⟩) ?_ ?_))
local macro "lh722_" : tactic => `(tactic| (refine pure_ (i := 19) (N := some 31) (v := undef) (a' := ?_) #[true, true, true, true, true, true, true, true, true, true, true, true, true, true, true, true, true, true, true, true, false, false, false, false, false, false, false, false, false, false, false, false] rfl rfl (any_of HT_.out (by kernel_rfl)) (fun _ _ _ h => h) (Or.inr ⟨by rfl, rfl⟩) ?_ ?_))
local macro "lh723_" : tactic => `(tactic| (refine pure_ (i := 20) (N := some 32) (v := undef) (a' := ?_) #[true, true, true, true, true, true, true, true, true, true, true, true, true, true, true, true, true, true, true, true, true, false, false, false, false, false, false, false, false, false, false, false] rfl rfl (any_of HT_.out (by kernel_rfl)) (fun _ _ _ h => h) (Or.inr ⟨by rfl, rfl⟩) ?_ ?_))
local macro "lh724_" : tactic => `(tactic| (refine pure_ (i := 21) (N := some 33) (v := undef) (a' := ?_) #[true, true, true, true, true, true, true, true, true, true, true, true, true, true, true, true, true, true, true, true, true, true, false, false, false, false, false, false, false, false, false, false] rfl rfl (any_of HT_.out (by kernel_rfl)) (fun _ _ _ h => h) (Or.inr ⟨by rfl, rfl⟩) ?_ ?_))
local macro "lh725_" : tactic => `(tactic| (refine pure_ (i := 22) (N := some 34) (v := undef) (a' := ?_) #[true, true, true, true, true, true, true, true, true, true, true, true, true, true, true, true, true, true, true, true, true, true, true, false, false, false, false, false, false, false, false, false] rfl rfl (any_of HT_.out (by kernel_rfl)) (fun _ _ _ h => h) (Or.inr ⟨by rfl, rfl⟩) ?_ ?_))
local macro "lh726_" : tactic => `(tactic| (refine pure_ (i := 23) (N := some 35) (v := undef) (a' := ?_) #[true, true, true, true, true, true, true, true, true, true, true, true, true, true, true, true, true, true, true, true, true, true, true, true, false, false, false, false, false, false, false, false] rfl rfl (any_of HT_.out (by kernel_rfl)) (fun _ _ _ h => h) (Or.inr ⟨by rfl, rfl⟩) ?_ ?_))
local macro "lh727_" : tactic => `(tactic| (refine pure_ (i := 24) (N := some 36) (v := undef) (a' := ?_) #[true, true, true, true, true, true, true, true, true, true, true, true, true, true, true, true, true, true, true, true, true, true, true, true, true, false, false, false, false, false, false, false] rfl rfl (any_of HT_.out (by kernel_rfl)) (fun _ _ _ h => h) (Or.inr ⟨by rfl, rfl⟩) ?_ ?_))
local macro "lh728_" : tactic => `(tactic| (refine pure_ (i := 25) (N := some 37) (v := undef) (a' := ?_) #[true, true, true, true, true, true, true, true, true, true, true, true, true, true, true, true, true, true, true, true, true, true, true, true, true, true, false, false, false, false, false, false] rfl rfl (any_of HT_.out (by kernel_rfl)) (fun _ _ _ h => h) (Or.inr ⟨by rfl, rfl⟩) ?_ ?_))
local macro "lh729_" : tactic => `(tactic| (refine pure_ (i := 26) (N := some 38) (v := undef) (a' := ?_) #[true, true, true, true, true, true, true, true, true, true, true, true, true, true, true, true, true, true, true, true, true, true, true, true, true, true, true, false, false, false, false, false] rfl rfl (any_of HT_.out (by kernel_rfl)) (fun _ _ _ h => h) (Or.inr ⟨by rfl, rfl⟩) ?_ ?_))
local macro "lh730_" : tactic => `(tactic| (refine pure_ (i := 27) (N := some 39) (v := undef) (a' := ?_) #[true, true, true, true, true, true, true, true, true, true, true, true, true, true, true, true, true, true, true, true, true, true, true, true, true, true, true, true, false, false, false, false] rfl rfl (any_of HT_.out (by kernel_rfl)) (fun _ _ _ h => h) (Or.inr ⟨by rfl, rfl⟩) ?_ ?_))
local macro "lh731_" : tactic => `(tactic| (refine pure_ (i := 28) (N := some 40) (v := undef) (a' := ?_) #[true, true, true, true, true, true, true, true, true, true, true, true, true, true, true, true, true, true, true, true, true, true, true, true, true, true, true, true, true, false, false, false] rfl rfl (any_of HT_.out (by kernel_rfl)) (fun _ _ _ h => h) (Or.inr ⟨by rfl, rfl⟩) ?_ ?_))
local macro "lh732_" : tactic => `(tactic| (refine pure_ (i := 29) (N := some 41) (v := undef) (a' := ?_) #[true, true, true, true, true, true, true, true, true, true, true, true, true, true, true, true, true, true, true, true, true, true, true, true, true, true, true, true, true, true, false, false] rfl rfl (any_of HT_.out (by kernel_rfl)) (fun _ _ _ h => h) (Or.inr ⟨by rfl, rfl⟩) ?_ ?_))
local macro "lh733_" : tactic => `(tactic| (refine pure_ (i := 30) (N := some 42) (v := undef) (a' := ?_) #[true, true, true, true, true, true, true, true, true, true, true, true, true, true, true, true, true, true, true, true, true, true, true, true, true, true, true, true, true, true, true, false] rfl rfl (any_of HT_.out (by kernel_rfl)) (fun _ _ _ h => h) (Or.inr ⟨by rfl, rfl⟩) ?_ ?_))
local macro "lh734_" : tactic => `(tactic| (refine pure_ (i := 31) (N := some 43) (v := ?_) (a' := ?_) #[true, true, true, true, true, true, true, true, true, true, true, true, true, true, true, true, true, true, true, true, true, true, true, true, true, true, true, true, true, true, true, true] rfl rfl (any_of HT_.out (by kernel_rfl)) (fun _ _ _ h => h) (Or.inl ⟨by rfl, ?_⟩) ?_ ?_))
local macro "lh735_" : tactic => `(tactic| (refine done_ (done_of HT_.out (by kernel_rfl)) ?_))
local macro "lh736_" : tactic => `(tactic| (exact ⟨by first | rfl | (simp [errW_none, errW_some] <;> rfl) | (simp [*, errW_none, errW_some] <;> rfl), by qb1_ GE105⟩))
local macro "lh737_" : tactic => `(tactic| (refine pure_ (i := 4) (N := some 16) (v := ?_) (a' := ?_) #[true, true, true, true, true, false, false, false, false, false, false, false, false, false, false, false, false, false, false, false, false, false, false, false, false, false, false, false, false, false, false, false] rfl rfl (any_of HT_.out (by kernel_rfl)) (fun _ _ _ h => h) (Or.inl ⟨by rfl, ?_⟩) ?_ ?_))
local macro "lh738_" : tactic => `(tactic| (refine pure_ (i := 6) (N := some 18) (v := ?_) (a' := ?_) #[true, true, true, true, true, false, true, false, false, false, false, false, false, false, false, false, false, false, false, false, false, false, false, false, false, false, false, false, false, false, false, false] rfl rfl (any_of HT_.out (by kernel_rfl)) (fun _ _ _ h => h) (Or.inl ⟨by rfl, ?_⟩) ?_ ?_))
local macro "lh739_" : tactic => `(tactic| (refine take_ (i := 5) (N := some 17) (v := ?_) (a' := ?_) #[true, true, true, true, true, true, true, false, false, false, false, false, false, false, false, false, false, false, false, false, false, false, false, false, false, false, false, false, false, false, false, false] rfl rfl (take_ofW HT_.out HW_.out (by kernel_rfl)) (fun _ _ _ h => h) (Or.inl ⟨by rfl, ?_⟩) hHeld ?_ ?_))
local macro "lh740_" : tactic => `(tactic| (refine take_ (i := 7) (N := some 19) (v := ?_) (a' := ?_) #[true, true, true, true, true, true, true, true, false, false, false, false, false, false, false, false, false, false, false, false, false, false, false, false, false, false, false, false, false, false, false, false] rfl rfl (take_ofW HT_.out HW_.out (by kernel_rfl)) (fun _ _ _ h => h) (Or.inl ⟨by rfl, ?_⟩) hHeld ?_ ?_))
local macro "lh741_" : tactic => `(tactic| (refine pure_ (i := 8) (N := some 20) (v := ?_) (a' := ?_) #[true, true, true, true, true, true, true, true, true, false, false, false, false, false, false, false, false, false, false, false, false, false, false, false, false, false, false, false, false, false, false, false] rfl rfl (any_of HT_.out (by kernel_rfl)) (fun _ _ _ h => h) (Or.inl ⟨by rfl, ?_⟩) ?_ ?_))
local macro "lh742_" : tactic => `(tactic| (refine pure_ (i := 11) (N := some 23) (v := ?_) (a' := ?_) #[true, true, true, true, true, true, true, true, true, true, true, true, false, false, false, false, false, false, false, false, false, false, false, false, false, false, false, false, false, false, false, false] rfl rfl (any_of HT_.out (by kernel_rfl)) (fun _ _ _ h => h) (Or.inl ⟨by rfl, ?_⟩) ?_ ?_))
local macro "lh743_" : tactic => `(tactic| (refine take_ (i := 12) (N := some 24) (v := ?_) (a' := ?_) #[true, true, true, true, true, true, true, true, true, true, true, true, true, false, false, false, false, false, false, false, false, false, false, false, false, false, false, false, false, false, false, false] rfl rfl (take_ofW HT_.out HW_.out (by kernel_rfl)) (fun _ _ _ h => h) (Or.inl ⟨by rfl, ?_⟩) hHeld ?_ ?_))
local macro "lh744_" : tactic => `(tactic| (refine one_ (i := 13) (N := some 25) #[true, true, true, true, true, true, true, true, true, true, true, true, true, true, false, false, false, false, false, false, false, false, false, false, false, false, false, false, false, false, false, false] rfl rfl (one_of HT_.out (by kernel_rfl)) (by decide) (fun K hK => ?_)))
local macro "lh745_" : tactic => `(tactic| (refine goes_ Tryd.func24 (by kernel_rfl) rfl #[.int .i64 ((rd_T103 l0 x7_1).f1)] (by rfl) rfl rfl (ph72_) ?_))
local macro "lh746_" : tactic => `(tactic| (refine pure_ (i := 14) (N := some 26) (v := ?_) (a' := ?_) #[true, true, true, true, true, true, true, true, true, true, true, true, true, true, true, false, false, false, false, false, false, false, false, false, false, false, false, false, false, false, false, false] rfl rfl (any_of HT_.out (by kernel_rfl)) (fun _ _ _ h => h) (Or.inl ⟨by rfl, ?_⟩) ?_ ?_))
local macro "lh747_" : tactic => `(tactic| (refine start_ (n := 32) (S := fun w' => w'.cell? ⟨gb105, 0, none⟩ = some (.int .i64 ((rd_T103 l0 x7_1).f0)) ∧ w'.cell? ⟨gb105, 1, none⟩ = some (.int .i64 ((rd_T103 l0 x7_1).f1)) ∧ w'.cell? (ad104.add (((ji22)).toNat * 2)) = some (.int .i64 ((rd_T103 l0 (ji22)).f0)) ∧ w'.cell? ⟨(ad104.add (((ji22)).toNat * 2)).block, (ad104.add (((ji22)).toNat * 2)).off + 1, none⟩ = some (.int .i64 ((rd_T103 l0 (ji22)).f1))) (ds := []) #[false, false, false, false, false, false, false, false, false, false, false, false, false, false, false, false, false, false, false, false, false, false, false, false, false, false, false, false, false, false, false, false] (by kernel_rfl) rfl rfl ⟨(blk_cell BK105.out 0).trans rfl, (blk_cell BK105.out 1).trans rfl, ((HB.out.cell (World.block_lt_of_cell? w _ hw107_0)).trans hw107_0), ((HB.out.cell (World.block_lt_of_cell? w _ hw107_1)).trans hw107_1)⟩ (fun hHeld => ?_); refine with_tabW frame_spanned.tab4 frame_spanned.bits4 (fun HT_ HW_ => ?_)))
local macro "lh748_" : tactic => `(tactic| (refine hK.out _ _ ⟨(blk_cell BK105.out 0).trans rfl, (blk_cell BK105.out 1).trans rfl, ((HB.out.cell (World.block_lt_of_cell? w _ hw107_0)).trans hw107_0), ((HB.out.cell (World.block_lt_of_cell? w _ hw107_1)).trans hw107_1)⟩ (fun hHeld => ?_)))
local macro "lh749_" : tactic => `(tactic| (refine pure_ (i := 17) (N := some 29) (v := ?_) (a' := ?_) #[true, true, true, true, true, true, true, true, true, true, true, true, true, true, true, true, true, true, false, false, false, false, false, false, false, false, false, false, false, false, false, false] rfl rfl (any_of HT_.out (by kernel_rfl)) (fun _ _ _ h => h) (Or.inl ⟨by rfl, ?_⟩) ?_ ?_))
local macro "lh750_" : tactic => `(tactic| (refine pure_ (i := 18) (N := some 30) (v := ?_) (a' := ?_) #[true, true, true, true, true, true, true, true, true, true, true, true, true, true, true, true, true, true, true, false, false, false, false, false, false, false, false, false, false, false, false, false] rfl rfl (any_of HT_.out (by kernel_rfl)) (fun _ _ _ h => h) (Or.inl ⟨by rfl, ?_⟩) ?_ ?_))
local macro "lh751_" : tactic => `(tactic| (refine pure_ (i := 19) (N := some 31) (v := ?_) (a' := ?_) #[true, true, true, true, true, true, true, true, true, true, true, true, true, true, true, true, true, true, true, true, false, false, false, false, false, false, false, false, false, false, false, false] rfl rfl (any_of HT_.out (by kernel_rfl)) (fun _ _ _ h => h) (Or.inl ⟨by rfl, ?_⟩) ?_ ?_))
local macro "lh752_" : tactic => `(tactic| (refine pure_ (i := 20) (N := some 32) (v := ?_) (a' := ?_) #[true, true, true, true, true, true, true, true, true, true, true, true, true, true, true, true, true, true, true, true, true, false, false, false, false, false, false, false, false, false, false, false] rfl rfl (any_of HT_.out (by kernel_rfl)) (fun _ _ _ h => h) (Or.inl ⟨by rfl, ?_⟩) ?_ ?_))
local macro "lh753_" : tactic => `(tactic| (refine pure_ (i := 22) (N := some 34) (v := ?_) (a' := ?_) #[true, true, true, true, true, true, true, true, true, true, true, true, true, true, true, true, true, true, true, true, true, false, true, false, false, false, false, false, false, false, false, false] rfl rfl (any_of HT_.out (by kernel_rfl)) (fun _ _ _ h => h) (Or.inl ⟨by rfl, ?_⟩) ?_ ?_))
local macro "lh754_" : tactic => `(tactic| (refine pure_ (i := 23) (N := some 35) (v := ?_) (a' := ?_) #[true, true, true, true, true, true, true, true, true, true, true, true, true, true, true, true, true, true, true, true, true, false, true, true, false, false, false, false, false, false, false, false] rfl rfl (any_of HT_.out (by kernel_rfl)) (fun _ _ _ h => h) (Or.inl ⟨by rfl, ?_⟩) ?_ ?_))
local macro "lh755_" : tactic => `(tactic| (refine pure_ (i := 24) (N := some 36) (v := ?_) (a' := ?_) #[true, true, true, true, true, true, true, true, true, true, true, true, true, true, true, true, true, true, true, true, true, false, true, true, true, false, false, false, false, false, false, false] rfl rfl (any_of HT_.out (by kernel_rfl)) (fun _ _ _ h => h) (Or.inl ⟨by rfl, ?_⟩) ?_ ?_))
local macro "lh756_" : tactic => `(tactic| (refine pure_ (i := 25) (N := some 37) (v := ?_) (a' := ?_) #[true, true, true, true, true, true, true, true, true, true, true, true, true, true, true, true, true, true, true, true, true, false, true, true, true, true, false, false, false, false, false, false] rfl rfl (any_of HT_.out (by kernel_rfl)) (fun _ _ _ h => h) (Or.inl ⟨by rfl, ?_⟩) ?_ ?_))
local macro "lh757_" : tactic => `(tactic| (refine pure_ (i := 26) (N := some 38) (v := ?_) (a' := ?_) #[true, true, true, true, true, true, true, true, true, true, true, true, true, true, true, true, true, true, true, true, true, false, true, true, true, true, true, false, false, false, false, false] rfl rfl (any_of HT_.out (by kernel_rfl)) (fun _ _ _ h => h) (Or.inl ⟨by rfl, ?_⟩) ?_ ?_))
local macro "lh758_" : tactic => `(tactic| (refine take_ (i := 21) (N := some 33) (v := ?_) (a' := ?_) #[true, true, true, true, true, true, true, true, true, true, true, true, true, true, true, true, true, true, true, true, true, true, true, true, true, true, true, false, false, false, false, false] rfl rfl (take_ofW HT_.out HW_.out (by kernel_rfl)) (fun _ _ _ h => h) (Or.inl ⟨by rfl, ?_⟩) hHeld ?_ ?_))
local macro "lh759_" : tactic => `(tactic| (refine take_ (i := 27) (N := some 39) (v := ?_) (a' := ?_) #[true, true, true, true, true, true, true, true, true, true, true, true, true, true, true, true, true, true, true, true, true, true, true, true, true, true, true, true, false, false, false, false] rfl rfl (take_ofW HT_.out HW_.out (by kernel_rfl)) (fun _ _ _ h => h) (Or.inl ⟨by rfl, ?_⟩) hHeld ?_ ?_))
local macro "lh760_" : tactic => `(tactic| (refine pure_ (i := 28) (N := some 40) (v := ?_) (a' := ?_) #[true, true, true, true, true, true, true, true, true, true, true, true, true, true, true, true, true, true, true, true, true, true, true, true, true, true, true, true, true, false, false, false] rfl rfl (any_of HT_.out (by kernel_rfl)) (fun _ _ _ h => h) (Or.inl ⟨by rfl, ?_⟩) ?_ ?_))
local macro "lh761_" : tactic => `(tactic| (refine pure_ (i := 29) (N := some 41) (v := ?_) (a' := ?_) #[true, true, true, true, true, true, true, true, true, true, true, true, true, true, true, true, true, true, true, true, true, true, true, true, true, true, true, true, true, true, false, false] rfl rfl (any_of HT_.out (by kernel_rfl)) (fun _ _ _ h => h) (Or.inl ⟨by rfl, ?_⟩) ?_ ?_))
local macro "lh762_" : tactic => `(tactic| (refine pure_ (i := 30) (N := some 42) (v := ?_) (a' := ?_) #[true, true, true, true, true, true, true, true, true, true, true, true, true, true, true, true, true, true, true, true, true, true, true, true, true, true, true, true, true, true, true, false] rfl rfl (any_of HT_.out (by kernel_rfl)) (fun _ _ _ h => h) (Or.inl ⟨by rfl, ?_⟩) ?_ ?_))
set_option hygiene true
def frame_spanned.l0 : Nat → List (S103) → List (S103) → Int → Int → Option (Bool)
 | 0, _, _, _, _ => none
 | k + 1, x0, x5, x6, x7 => if x7 < x6 then (if 0 ≤ x7 then (if x7 < (x5.length : Int) then (if ((rd_T103 x5 x7).f0) < 0 then (some false) else (if ((rd_T103 x5 x7).f0) > ((rd_T103 x5 x7).f1) then (some false) else ((varint_Size.f ((rd_T103 x5 x7).f1)).bind fun t106 => (if t106 = 0 then (some false) else (if x7 > 0 then (if 0 ≤ (wrap64 (x7 - 1)) then (if (wrap64 (x7 - 1)) < (x0.length : Int) then (if ((rd_T103 x5 x7).f1) > (wrap64 (((rd_T103 x0 (wrap64 (x7 - 1))).f0) - 2)) then (some false) else (frame_spanned.l0 k x0 x5 x6 (wrap64 (x7 + 1)))) else (none)) else (none)) else (frame_spanned.l0 k x0 x5 x6 (wrap64 (x7 + 1)))))))) else (none)) else (none)) else (if (x0.length : Int) > 0 then (some (decide ((x0.length : Int) ≤ 32))) else (some false))
def frame_spanned.f (k : Nat) (l0 : List (S103)) : Option (Bool) := frame_spanned.l0 k l0 l0 (l0.length : Int) 0
theorem frame_spanned.mono_l : ∀ k, (∀ y0 y1 y2 y3, LeO (frame_spanned.l0 k y0 y1 y2 y3) (frame_spanned.l0 (k + 1) y0 y1 y2 y3))
 | 0 => fun _ _ _ _ r h => by simp [frame_spanned.l0] at h
 | k + 1 => by
  have ih0 := frame_spanned.mono_l k
  ·intro y0 y1 y2 y3
   unfold frame_spanned.l0
   repeat' first
   | (with_reducible exact ih0 _ _ _ _)
   | (with_reducible exact LeO.refl _)
   | (with_reducible exact LeO.none _)
   | (with_reducible refine LeO.ite ?_ ?_)
   | (with_reducible refine LeO.bind ?_ (fun _ => ?_))
   | exact ih0 _ _ _ _
   | exact LeO.none _
   | refine LeO.ite ?_ ?_
   | refine LeO.bind ?_ (fun _ => ?_)
theorem frame_spanned.mono : ∀ a0 k, LeO (frame_spanned.f k a0) (frame_spanned.f (k + 1) a0) := by
 intro a0 k
 have ih0 := frame_spanned.mono_l k
 unfold frame_spanned.f
 repeat' first
   | (with_reducible exact ih0 _ _ _ _)
   | (with_reducible exact LeO.refl _)
   | (with_reducible exact LeO.none _)
   | (with_reducible refine LeO.ite ?_ ?_)
   | (with_reducible refine LeO.bind ?_ (fun _ => ?_))
   | exact ih0 _ _ _ _
   | exact LeO.none _
   | refine LeO.ite ?_ ?_
   | refine LeO.bind ?_ (fun _ => ?_)
def frame_spanned.T4 : Bool × List (List Nat × List Nat) := (true, [([], []), ([0], [0]), ([1], [1]), ([2], [2]), ([3], [3]), ([4, 3], [3, 4]), ([3], [3]), ([6, 3], [3, 6]), ([5, 7, 3], [3, 5, 7]), ([3, 8], [3, 8]), ([9, 3], [9]), ([10], [10]), ([11, 10], [10, 11]), ([12, 10, 10], [10, 12]), ([13, 10], [10, 13]), ([10, 14], [10, 14]), ([15, 13], [15]), ([16], [16]), ([17, 16], [16, 17]), ([18, 16, 16], [16, 18]), ([19], [19]), ([20, 19], [19, 20]), ([19], [19]), ([19], [19]), ([23, 19], [19, 23]), ([22, 24, 19], [19, 22, 24]), ([25, 19], [19, 25]), ([26, 19], [19, 26]), ([27, 19], [19, 27]), ([21, 28, 19], [19, 21, 28]), ([19, 29, 16], [16, 19, 29]), ([16, 30], [16, 30])])
def frame_spanned.B4 : List Nat := [0, 1, 3, 7, 15, 31, 15, 79, 255, 511, 1023, 2047, 4095, 8191, 16383, 32767, 65535, 131071, 262143, 524287, 1048575, 2097151, 1048575, 1048575, 9437183, 30408703, 63963135, 131071999, 265289727, 536870911, 1073741823, 2147483647]
theorem frame_spanned.tab4 : rtab .any (opsOf Tryd.f67 4) = frame_spanned.T4 := by kernel_rfl
theorem frame_spanned.bits4 : waitsOk frame_spanned.T4.2 frame_spanned.B4 = true := by kernel_rfl
set_option maxHeartbeats 8000000 in
set_option maxRecDepth 100000 in
theorem frame_spanned.calls (k : Nat) (A0 : Option Addr) (c0 : Nat) (l0 : List (S103)) (r : Bool) (w : World) (hr0 : Kd.C k103 w A0 l0.length l0) (hc0 : l0.length ≤ c0) (h : frame_spanned.f k l0 = some r) :
  Calls Tryd.prog 67 #[.slice A0 l0.length c0] w fun e w' => e = .returned (.bool r) ∧ Below w.heap.size w w' := by
 have hu103 := Tryd.underlying103
 have HR0 := Aside0.mk hr0
 have HC0 := Aside0.mk hc0
 clear hr0 hc0
 have HB := Aside0.mk (Below.refl w.heap.size w)
 have H : (frame_spanned.l0 k l0 l0 (l0.length : Int) 0) = some r := h
 clear h
 have H' := Aside0.mk H
 clear H
 go_enter Tryd.func67, Tryd.ntmps67
 go_wp2
 go_loopg [7] k (fun kq v7 w' => ∃ (x7_1 : Int), v7 = .int .i64 x7_1 ∧ Aside0 (frame_spanned.l0 kq l0 l0 (l0.length : Int) x7_1 = some r) ∧ Aside0 (kq ≤ k) ∧ Aside0 (Below w.heap.size w w'))
 case atStart => exact ⟨(0), (by first | rfl | (simp; done) | (simp [*]; done)), H', ⟨Nat.le_refl _⟩, ⟨by qc0_⟩⟩
 case round =>
  clear H'
  obtain ⟨x7_1, rfl, HA, HK1, HB⟩ := hrel
  cases gk with
  | zero => exact absurd HA.out (by simp [frame_spanned.l0])
  | succ k1 =>
   have H := HA.out
   clear HA
   simp only [frame_spanned.l0] at H
   by_cases c2 : x7_1 < (l0.length : Int)
   ·rw [if_pos c2] at H
    have c2b0 : decide (x7_1 < (l0.length : Int)) = true := decide_eq_true c2
    clear c2
    by_cases c3 : 0 ≤ x7_1
    ·rw [if_pos c3] at H
     have c3b0 : decide (0 ≤ x7_1) = true := decide_eq_true c3
     clear c3
     by_cases c4 : x7_1 < (l0.length : Int)
     ·rw [if_pos c4] at H
      have c4b0 : decide (x7_1 < (l0.length : Int)) = true := decide_eq_true c4
      clear c4
      by_cases c5 : ((rd_T103 l0 x7_1).f0) < 0
      ·rw [if_pos c5] at H
       have c5b0 : decide (((rd_T103 l0 x7_1).f0) < 0) = true := decide_eq_true c5
       clear c5
       obtain rfl := Option.some.inj H
       lh70_
       lh71_
       lh72_
       cases e104
       lh73_
       lh74_
       replace p104 := eq_true p104
       replace q104 := eq_true q104
       try go_wp2_with (first | ((with_reducible refine gate_dst (N := 4) rfl ?_); (try (refine gate_guard (by rfl) ?_; dsimp only)); refine box_event ?hg (N := 4) ?hd (cs := #[.int .i64 0, .int .i64 0]) (t := 103) ?hr ?_; (case hd => rfl); (case hg => rfl); (case hr => first | (go_simp; done) | (go_simp; rfl)); intro gb105 hg w6 hbox hb; have n0_ := Aside0.mk (below_step (by qc0_) hb); have n1_ := Aside0.mk (hbox); have n2_ := Aside0.mk ((ph71_)); have n3_ := Aside0.mk ((ph71_)); clear HB; have HB := n0_; have BK105 := n1_; have GW105 := n2_; have GE105 := n3_; clear n0_ n1_ n2_ n3_; clear hb hbox hg; have hcz7_0 : w6.cell? ⟨gb105, 0, none⟩ = some (.int .i64 0) := (blk_cell BK105.out 0).trans rfl; have hcz7_1 : w6.cell? ⟨gb105, 1, none⟩ = some (.int .i64 0) := (blk_cell BK105.out 1).trans rfl; have hfz7_0 := blk_frozen BK105.out 0; have hfz7_1 := blk_frozen BK105.out 1))
       have n0_ : Aside0 (((w6.setCell ⟨gb105, 0, none⟩ (.int .i64 ((rd_T103 l0 x7_1).f0))).setCell ⟨gb105, 1, none⟩ (.int .i64 ((rd_T103 l0 x7_1).f1))).heap[gb105]? = some ((oh70_))) := ⟨by qk_; refine blk_put (cs := #[.int .i64 ((rd_T103 l0 x7_1).f0), .int .i64 0]) ?_ 1 _ rfl; qk_; refine blk_put (cs := #[.int .i64 0, .int .i64 0]) ?_ 0 _ rfl; qk_; exact BK105.out⟩
       have n1_ : Aside0 (Below w.heap.size w ((w6.setCell ⟨gb105, 0, none⟩ (.int .i64 ((rd_T103 l0 x7_1).f0))).setCell ⟨gb105, 1, none⟩ (.int .i64 ((rd_T103 l0 x7_1).f1)))) := ⟨by qb1_ GE105⟩
       (try clear BK105)
       (try clear HB)
       generalize ((w6.setCell ⟨gb105, 0, none⟩ (.int .i64 ((rd_T103 l0 x7_1).f0))).setCell ⟨gb105, 1, none⟩ (.int .i64 ((rd_T103 l0 x7_1).f1))) = w8 at n0_ n1_ ⊢
       have BK105 := n0_
       have HB := n1_
       clear n0_ n1_
       lh75_
       lh76_
       clear BK105
       clear HB
       have BK105 := n0_
       have HB := n1_
       clear n0_ n1_
       lh77_
       generalize w8.drew = w9 at BK105 HB hHeld ⊢
       lh78_
       rotate_left
       ·intro w'
        go_simp
        with_reducible rfl
       rotate_left
       ·qp_
        rfl
       lh79_
       rotate_left
       ·rintro w' ⟨s0, s1⟩
        go_simp
        with_reducible rfl
       rotate_left
       ·qp_
        rfl
       lh710_
       rotate_left
       ·intro w'
        go_simp
        with_reducible rfl
       rotate_left
       ·qp_
        rfl
       lh711_
       rotate_left
       ·intro w'
        go_simp
        with_reducible rfl
       rotate_left
       ·qp_
        rfl
       refine pure_ (i := 4) (N := some 16) (v := undef) (a' := ?_) #[true, true, true, true, true, false, false, false, false, false, false, false, false, false, false, false, false, false, false, false, false, false, false, false, false, false, false, false, false, false, false, false] rfl rfl (any_of HT_.out (by kernel_rfl)) (fun _ _ _ h => h) (Or.inr ⟨by rfl, rfl⟩) ?_ ?_
       rotate_left
       ·qp_
        rfl
       refine pure_ (i := 5) (N := some 17) (v := undef) (a' := ?_) #[true, true, true, true, true, true, false, false, false, false, false, false, false, false, false, false, false, false, false, false, false, false, false, false, false, false, false, false, false, false, false, false] rfl rfl (any_of HT_.out (by kernel_rfl)) (fun _ _ _ h => h) (Or.inr ⟨by rfl, rfl⟩) ?_ ?_
       rotate_left
       ·qp_
        rfl
       refine pure_ (i := 6) (N := some 18) (v := undef) (a' := ?_) #[true, true, true, true, true, true, true, false, false, false, false, false, false, false, false, false, false, false, false, false, false, false, false, false, false, false, false, false, false, false, false, false] rfl rfl (any_of HT_.out (by kernel_rfl)) (fun _ _ _ h => h) (Or.inr ⟨by rfl, rfl⟩) ?_ ?_
       rotate_left
       ·qp_
        rfl
       refine pure_ (i := 7) (N := some 19) (v := undef) (a' := ?_) #[true, true, true, true, true, true, true, true, false, false, false, false, false, false, false, false, false, false, false, false, false, false, false, false, false, false, false, false, false, false, false, false] rfl rfl (any_of HT_.out (by kernel_rfl)) (fun _ _ _ h => h) (Or.inr ⟨by rfl, rfl⟩) ?_ ?_
       rotate_left
       ·qp_
        rfl
       refine pure_ (i := 8) (N := some 20) (v := undef) (a' := ?_) #[true, true, true, true, true, true, true, true, true, false, false, false, false, false, false, false, false, false, false, false, false, false, false, false, false, false, false, false, false, false, false, false] rfl rfl (any_of HT_.out (by kernel_rfl)) (fun _ _ _ h => h) (Or.inr ⟨by rfl, rfl⟩) ?_ ?_
       rotate_left
       ·qp_
        rfl
       lh712_
       rotate_left
       ·intro w'
        go_simp
        with_reducible rfl
       rotate_left
       ·qp_
        rfl
       lh713_
       rotate_left
       ·intro w'
        go_simp
        with_reducible rfl
       rotate_left
       ·qp_
        rfl
       lh714_
       rotate_left
       ·qp_
        rfl
       lh715_
       rotate_left
       ·qp_
        rfl
       lh716_
       rotate_left
       ·qp_
        rfl
       lh717_
       rotate_left
       ·qp_
        rfl
       lh718_
       rotate_left
       ·intro w'
        go_simp
        with_reducible rfl
       rotate_left
       ·qp_
        rfl
       lh719_
       rotate_left
       ·intro w'
        go_simp
        with_reducible rfl
       rotate_left
       ·qp_
        rfl
       lh720_
       rotate_left
       ·qp_
        rfl
       lh721_
       rotate_left
       ·qp_
        rfl
       lh722_
       rotate_left
       ·qp_
        rfl
       lh723_
       rotate_left
       ·qp_
        rfl
       lh724_
       rotate_left
       ·qp_
        rfl
       lh725_
       rotate_left
       ·qp_
        rfl
       lh726_
       rotate_left
       ·qp_
        rfl
       lh727_
       rotate_left
       ·qp_
        rfl
       lh728_
       rotate_left
       ·qp_
        rfl
       lh729_
       rotate_left
       ·qp_
        rfl
       lh730_
       rotate_left
       ·qp_
        rfl
       lh731_
       rotate_left
       ·qp_
        rfl
       lh732_
       rotate_left
       ·qp_
        rfl
       lh733_
       rotate_left
       ·qp_
        rfl
       lh734_
       rotate_left
       ·intro w'
        go_simp
        with_reducible rfl
       rotate_left
       ·qp_
        rfl
       lh735_
       try go_wp2
       go_ret
       lh736_
      ·rw [if_neg c5] at H
       have c5b0 : decide (((rd_T103 l0 x7_1).f0) < 0) = false := decide_eq_false c5
       clear c5
       by_cases c10 : ((rd_T103 l0 x7_1).f0) > ((rd_T103 l0 x7_1).f1)
       ·rw [if_pos c10] at H
        have c10b0 : decide (((rd_T103 l0 x7_1).f1) < ((rd_T103 l0 x7_1).f0)) = true := decide_eq_true c10
        clear c10
        obtain rfl := Option.some.inj H
        lh70_
        lh71_
        lh72_
        cases e104
        lh73_
        lh74_
        replace p104 := eq_true p104
        replace q104 := eq_true q104
        try go_wp2_with (first | ((with_reducible refine gate_dst (N := 4) rfl ?_); (try (refine gate_guard (by rfl) ?_; dsimp only)); refine box_event ?hg (N := 4) ?hd (cs := #[.int .i64 0, .int .i64 0]) (t := 103) ?hr ?_; (case hd => rfl); (case hg => rfl); (case hr => first | (go_simp; done) | (go_simp; rfl)); intro gb105 hg w11 hbox hb; have n0_ := Aside0.mk (below_step (by qc0_) hb); have n1_ := Aside0.mk (hbox); have n2_ := Aside0.mk ((ph71_)); have n3_ := Aside0.mk ((ph71_)); clear HB; have HB := n0_; have BK105 := n1_; have GW105 := n2_; have GE105 := n3_; clear n0_ n1_ n2_ n3_; clear hb hbox hg; have hcz12_0 : w11.cell? ⟨gb105, 0, none⟩ = some (.int .i64 0) := (blk_cell BK105.out 0).trans rfl; have hcz12_1 : w11.cell? ⟨gb105, 1, none⟩ = some (.int .i64 0) := (blk_cell BK105.out 1).trans rfl; have hfz12_0 := blk_frozen BK105.out 0; have hfz12_1 := blk_frozen BK105.out 1))
        have n0_ : Aside0 (((w11.setCell ⟨gb105, 0, none⟩ (.int .i64 ((rd_T103 l0 x7_1).f0))).setCell ⟨gb105, 1, none⟩ (.int .i64 ((rd_T103 l0 x7_1).f1))).heap[gb105]? = some ((oh70_))) := ⟨by qk_; refine blk_put (cs := #[.int .i64 ((rd_T103 l0 x7_1).f0), .int .i64 0]) ?_ 1 _ rfl; qk_; refine blk_put (cs := #[.int .i64 0, .int .i64 0]) ?_ 0 _ rfl; qk_; exact BK105.out⟩
        have n1_ : Aside0 (Below w.heap.size w ((w11.setCell ⟨gb105, 0, none⟩ (.int .i64 ((rd_T103 l0 x7_1).f0))).setCell ⟨gb105, 1, none⟩ (.int .i64 ((rd_T103 l0 x7_1).f1)))) := ⟨by qb1_ GE105⟩
        (try clear BK105)
        (try clear HB)
        generalize ((w11.setCell ⟨gb105, 0, none⟩ (.int .i64 ((rd_T103 l0 x7_1).f0))).setCell ⟨gb105, 1, none⟩ (.int .i64 ((rd_T103 l0 x7_1).f1))) = w13 at n0_ n1_ ⊢
        have BK105 := n0_
        have HB := n1_
        clear n0_ n1_
        lh75_
        lh76_
        clear BK105
        clear HB
        have BK105 := n0_
        have HB := n1_
        clear n0_ n1_
        lh77_
        generalize w13.drew = w14 at BK105 HB hHeld ⊢
        lh78_
        rotate_left
        ·intro w'
         go_simp
         with_reducible rfl
        rotate_left
        ·qp_
         rfl
        lh79_
        rotate_left
        ·rintro w' ⟨s0, s1⟩
         go_simp
         with_reducible rfl
        rotate_left
        ·qp_
         rfl
        lh710_
        rotate_left
        ·intro w'
         go_simp
         with_reducible rfl
        rotate_left
        ·qp_
         rfl
        lh711_
        rotate_left
        ·intro w'
         go_simp
         with_reducible rfl
        rotate_left
        ·qp_
         rfl
        lh737_
        rotate_left
        ·intro w'
         go_simp
         with_reducible rfl
        rotate_left
        ·qp_
         rfl
        lh738_
        rotate_left
        ·intro w'
         go_simp
         with_reducible rfl
        rotate_left
        ·qp_
         rfl
        lh739_
        rotate_left
        ·rintro w' ⟨s0, s1⟩
         go_simp
         with_reducible rfl
        rotate_left
        ·qp_
         rfl
        lh740_
        rotate_left
        ·rintro w' ⟨s0, s1⟩
         go_simp
         with_reducible rfl
        rotate_left
        ·qp_
         rfl
        lh741_
        rotate_left
        ·intro w'
         go_simp
         with_reducible rfl
        rotate_left
        ·qp_
         rfl
        lh712_
        rotate_left
        ·intro w'
         go_simp
         with_reducible rfl
        rotate_left
        ·qp_
         rfl
        lh713_
        rotate_left
        ·intro w'
         go_simp
         with_reducible rfl
        rotate_left
        ·qp_
         rfl
        lh714_
        rotate_left
        ·qp_
         rfl
        lh715_
        rotate_left
        ·qp_
         rfl
        lh716_
        rotate_left
        ·qp_
         rfl
        lh717_
        rotate_left
        ·qp_
         rfl
        lh718_
        rotate_left
        ·intro w'
         go_simp
         with_reducible rfl
        rotate_left
        ·qp_
         rfl
        lh719_
        rotate_left
        ·intro w'
         go_simp
         with_reducible rfl
        rotate_left
        ·qp_
         rfl
        lh720_
        rotate_left
        ·qp_
         rfl
        lh721_
        rotate_left
        ·qp_
         rfl
        lh722_
        rotate_left
        ·qp_
         rfl
        lh723_
        rotate_left
        ·qp_
         rfl
        lh724_
        rotate_left
        ·qp_
         rfl
        lh725_
        rotate_left
        ·qp_
         rfl
        lh726_
        rotate_left
        ·qp_
         rfl
        lh727_
        rotate_left
        ·qp_
         rfl
        lh728_
        rotate_left
        ·qp_
         rfl
        lh729_
        rotate_left
        ·qp_
         rfl
        lh730_
        rotate_left
        ·qp_
         rfl
        lh731_
        rotate_left
        ·qp_
         rfl
        lh732_
        rotate_left
        ·qp_
         rfl
        lh733_
        rotate_left
        ·qp_
         rfl
        lh734_
        rotate_left
        ·intro w'
         go_simp
         with_reducible rfl
        rotate_left
        ·qp_
         rfl
        lh735_
        try go_wp2
        go_ret
        lh736_
       ·rw [if_neg c10] at H
        have c10b0 : decide (((rd_T103 l0 x7_1).f1) < ((rd_T103 l0 x7_1).f0)) = false := decide_eq_false c10
        clear c10
        replace H := Option.bind_eq_some_iff.mp H
        obtain ⟨t106, A150, H⟩ := H
        replace H : (if t106 = 0 then (some false) else (if x7_1 > 0 then (if 0 ≤ (wrap64 (x7_1 - 1)) then (if (wrap64 (x7_1 - 1)) < (l0.length : Int) then (if ((rd_T103 l0 x7_1).f1) > (wrap64 (((rd_T103 l0 (wrap64 (x7_1 - 1))).f0) - 2)) then (some false) else (frame_spanned.l0 k1 l0 l0 (l0.length : Int) (wrap64 (x7_1 + 1)))) else (none)) else (none)) else (frame_spanned.l0 k1 l0 l0 (l0.length : Int) (wrap64 (x7_1 + 1))))) = some r := H
        have A15 := Aside0.mk A150
        clear A150
        by_cases c16 : t106 = 0
        ·rw [if_pos c16] at H
         have c16b0 : (t106 == 0) = true := beq_iff_eq.mpr c16
         have c16b1 : (t106 != 0) = false := bne_eq_false_iff_eq.mpr c16
         clear c16
         obtain rfl := Option.some.inj H
         lh70_
         lh71_
         lh72_
         cases e104
         lh73_
         lh74_
         replace p104 := eq_true p104
         replace q104 := eq_true q104
         try go_wp2_with (first | ((with_reducible refine gate_dst (N := 4) rfl ?_); (try (refine gate_guard (by rfl) ?_; dsimp only)); refine box_event ?hg (N := 4) ?hd (cs := #[.int .i64 0, .int .i64 0]) (t := 103) ?hr ?_; (case hd => rfl); (case hg => rfl); (case hr => first | (go_simp; done) | (go_simp; rfl)); intro gb105 hg w17 hbox hb; have n0_ := Aside0.mk (below_step (by qc0_) hb); have n1_ := Aside0.mk (hbox); have n2_ := Aside0.mk ((ph71_)); have n3_ := Aside0.mk ((ph71_)); clear HB; have HB := n0_; have BK105 := n1_; have GW105 := n2_; have GE105 := n3_; clear n0_ n1_ n2_ n3_; clear hb hbox hg; have hcz18_0 : w17.cell? ⟨gb105, 0, none⟩ = some (.int .i64 0) := (blk_cell BK105.out 0).trans rfl; have hcz18_1 : w17.cell? ⟨gb105, 1, none⟩ = some (.int .i64 0) := (blk_cell BK105.out 1).trans rfl; have hfz18_0 := blk_frozen BK105.out 0; have hfz18_1 := blk_frozen BK105.out 1))
         have n0_ : Aside0 (((w17.setCell ⟨gb105, 0, none⟩ (.int .i64 ((rd_T103 l0 x7_1).f0))).setCell ⟨gb105, 1, none⟩ (.int .i64 ((rd_T103 l0 x7_1).f1))).heap[gb105]? = some ((oh70_))) := ⟨by qk_; refine blk_put (cs := #[.int .i64 ((rd_T103 l0 x7_1).f0), .int .i64 0]) ?_ 1 _ rfl; qk_; refine blk_put (cs := #[.int .i64 0, .int .i64 0]) ?_ 0 _ rfl; qk_; exact BK105.out⟩
         have n1_ : Aside0 (Below w.heap.size w ((w17.setCell ⟨gb105, 0, none⟩ (.int .i64 ((rd_T103 l0 x7_1).f0))).setCell ⟨gb105, 1, none⟩ (.int .i64 ((rd_T103 l0 x7_1).f1)))) := ⟨by qb1_ GE105⟩
         (try clear BK105)
         (try clear HB)
         generalize ((w17.setCell ⟨gb105, 0, none⟩ (.int .i64 ((rd_T103 l0 x7_1).f0))).setCell ⟨gb105, 1, none⟩ (.int .i64 ((rd_T103 l0 x7_1).f1))) = w19 at n0_ n1_ ⊢
         have BK105 := n0_
         have HB := n1_
         clear n0_ n1_
         lh75_
         lh76_
         clear BK105
         clear HB
         have BK105 := n0_
         have HB := n1_
         clear n0_ n1_
         lh77_
         generalize w19.drew = w20 at BK105 HB hHeld ⊢
         lh78_
         rotate_left
         ·intro w'
          go_simp
          with_reducible rfl
         rotate_left
         ·qp_
          rfl
         lh79_
         rotate_left
         ·rintro w' ⟨s0, s1⟩
          go_simp
          with_reducible rfl
         rotate_left
         ·qp_
          rfl
         lh710_
         rotate_left
         ·intro w'
          go_simp
          with_reducible rfl
         rotate_left
         ·qp_
          rfl
         lh711_
         rotate_left
         ·intro w'
          go_simp
          with_reducible rfl
         rotate_left
         ·qp_
          rfl
         lh737_
         rotate_left
         ·intro w'
          go_simp
          with_reducible rfl
         rotate_left
         ·qp_
          rfl
         lh738_
         rotate_left
         ·intro w'
          go_simp
          with_reducible rfl
         rotate_left
         ·qp_
          rfl
         lh739_
         rotate_left
         ·rintro w' ⟨s0, s1⟩
          go_simp
          with_reducible rfl
         rotate_left
         ·qp_
          rfl
         lh740_
         rotate_left
         ·rintro w' ⟨s0, s1⟩
          go_simp
          with_reducible rfl
         rotate_left
         ·qp_
          rfl
         lh741_
         rotate_left
         ·intro w'
          go_simp
          with_reducible rfl
         rotate_left
         ·qp_
          rfl
         lh712_
         rotate_left
         ·intro w'
          go_simp
          with_reducible rfl
         rotate_left
         ·qp_
          rfl
         lh713_
         rotate_left
         ·intro w'
          go_simp
          with_reducible rfl
         rotate_left
         ·qp_
          rfl
         lh742_
         rotate_left
         ·intro w'
          go_simp
          with_reducible rfl
         rotate_left
         ·qp_
          rfl
         lh743_
         rotate_left
         ·rintro w' ⟨s0, s1⟩
          go_simp
          with_reducible rfl
         rotate_left
         ·qp_
          rfl
         lh744_
         lh745_
         with_reducible refine (varint_Size.calls ((rd_T103 l0 x7_1).f1) t106 _ A15.out).mono ?_
         rintro e w' ⟨rfl, ⟨nd, rfl⟩⟩
         refine ⟨_, rfl, ?_⟩
         refine hK.out _ _ ⟨(blk_cell BK105.out 0).trans rfl, (blk_cell BK105.out 1).trans rfl⟩ (fun hHeld => ?_)
         clear hK K
         refine norm_ (a' := ?_) ?_ ?_
         rotate_left
         ·show Act.put _ (some 25) _ = _
          qp_
          rfl
         lh746_
         rotate_left
         ·intro w'
          go_simp
          with_reducible rfl
         rotate_left
         ·qp_
          rfl
         lh718_
         rotate_left
         ·intro w'
          go_simp
          with_reducible rfl
         rotate_left
         ·qp_
          rfl
         lh719_
         rotate_left
         ·intro w'
          go_simp
          with_reducible rfl
         rotate_left
         ·qp_
          rfl
         lh720_
         rotate_left
         ·qp_
          rfl
         lh721_
         rotate_left
         ·qp_
          rfl
         lh722_
         rotate_left
         ·qp_
          rfl
         lh723_
         rotate_left
         ·qp_
          rfl
         lh724_
         rotate_left
         ·qp_
          rfl
         lh725_
         rotate_left
         ·qp_
          rfl
         lh726_
         rotate_left
         ·qp_
          rfl
         lh727_
         rotate_left
         ·qp_
          rfl
         lh728_
         rotate_left
         ·qp_
          rfl
         lh729_
         rotate_left
         ·qp_
          rfl
         lh730_
         rotate_left
         ·qp_
          rfl
         lh731_
         rotate_left
         ·qp_
          rfl
         lh732_
         rotate_left
         ·qp_
          rfl
         lh733_
         rotate_left
         ·qp_
          rfl
         lh734_
         rotate_left
         ·intro w'
          go_simp
          with_reducible rfl
         rotate_left
         ·qp_
          rfl
         lh735_
         try go_wp2
         go_ret
         lh736_
        ·rw [if_neg c16] at H
         have c16b0 : (t106 == 0) = false := beq_eq_false_iff_ne.mpr c16
         have c16b1 : (t106 != 0) = true := bne_iff_ne.mpr c16
         by_cases c21 : x7_1 > 0
         ·rw [if_pos c21] at H
          have c21b0 : decide (0 < x7_1) = true := decide_eq_true c21
          clear c21
          obtain ⟨ji22, hji22⟩ : ∃ j_ : Int, (wrap64 (x7_1 - 1)) = j_ := ⟨_, rfl⟩
          replace H : (if 0 ≤ (ji22) then (if (ji22) < (l0.length : Int) then (if ((rd_T103 l0 x7_1).f1) > (wrap64 (((rd_T103 l0 (ji22)).f0) - 2)) then (some false) else (frame_spanned.l0 k1 l0 l0 (l0.length : Int) (wrap64 (x7_1 + 1)))) else (none)) else (none)) = some r := by first | (rw [hji22] at H; exact H) | (simp only [hji22] at H ⊢; exact H)
          (try rw [hji22] at A15)
          have hji22w : (IntKind.i64.wrap (x7_1 - 1)) = ji22 := (i64_w _).trans hji22
          by_cases c23 : 0 ≤ (ji22)
          ·rw [if_pos c23] at H
           have c23b0 : decide (0 ≤ (ji22)) = true := decide_eq_true c23
           clear c23
           by_cases c24 : (ji22) < (l0.length : Int)
           ·rw [if_pos c24] at H
            have c24b0 : decide ((ji22) < (l0.length : Int)) = true := decide_eq_true c24
            clear c24
            by_cases c25 : ((rd_T103 l0 x7_1).f1) > (wrap64 (((rd_T103 l0 (ji22)).f0) - 2))
            ·rw [if_pos c25] at H
             have c25b0 : decide ((wrap64 (((rd_T103 l0 (ji22)).f0) - 2)) < ((rd_T103 l0 x7_1).f1)) = true := decide_eq_true c25
             clear c25
             obtain rfl := Option.some.inj H
             lh70_
             lh71_
             lh72_
             cases e104
             lh73_
             lh74_
             replace p104 := eq_true p104
             replace q104 := eq_true q104
             try go_wp2_with (first | ((with_reducible refine gate_dst (N := 4) rfl ?_); (try (refine gate_guard (by rfl) ?_; dsimp only)); refine box_event ?hg (N := 4) ?hd (cs := #[.int .i64 0, .int .i64 0]) (t := 103) ?hr ?_; (case hd => rfl); (case hg => rfl); (case hr => first | (go_simp; done) | (go_simp; rfl)); intro gb105 hg w26 hbox hb; have n0_ := Aside0.mk (below_step (by qc0_) hb); have n1_ := Aside0.mk (hbox); have n2_ := Aside0.mk ((ph71_)); have n3_ := Aside0.mk ((ph71_)); clear HB; have HB := n0_; have BK105 := n1_; have GW105 := n2_; have GE105 := n3_; clear n0_ n1_ n2_ n3_; clear hb hbox hg; have hcz27_0 : w26.cell? ⟨gb105, 0, none⟩ = some (.int .i64 0) := (blk_cell BK105.out 0).trans rfl; have hcz27_1 : w26.cell? ⟨gb105, 1, none⟩ = some (.int .i64 0) := (blk_cell BK105.out 1).trans rfl; have hfz27_0 := blk_frozen BK105.out 0; have hfz27_1 := blk_frozen BK105.out 1))
             have n0_ : Aside0 (((w26.setCell ⟨gb105, 0, none⟩ (.int .i64 ((rd_T103 l0 x7_1).f0))).setCell ⟨gb105, 1, none⟩ (.int .i64 ((rd_T103 l0 x7_1).f1))).heap[gb105]? = some ((oh70_))) := ⟨by qk_; refine blk_put (cs := #[.int .i64 ((rd_T103 l0 x7_1).f0), .int .i64 0]) ?_ 1 _ rfl; qk_; refine blk_put (cs := #[.int .i64 0, .int .i64 0]) ?_ 0 _ rfl; qk_; exact BK105.out⟩
             have n1_ : Aside0 (Below w.heap.size w ((w26.setCell ⟨gb105, 0, none⟩ (.int .i64 ((rd_T103 l0 x7_1).f0))).setCell ⟨gb105, 1, none⟩ (.int .i64 ((rd_T103 l0 x7_1).f1)))) := ⟨by qb1_ GE105⟩
             (try clear BK105)
             (try clear HB)
             generalize ((w26.setCell ⟨gb105, 0, none⟩ (.int .i64 ((rd_T103 l0 x7_1).f0))).setCell ⟨gb105, 1, none⟩ (.int .i64 ((rd_T103 l0 x7_1).f1))) = w28 at n0_ n1_ ⊢
             have BK105 := n0_
             have HB := n1_
             clear n0_ n1_
             lh75_
             lh76_
             clear BK105
             clear HB
             have BK105 := n0_
             have HB := n1_
             clear n0_ n1_
             have p107 : 0 ≤ ((ji22) : Int) := of_decide_eq_true (ph70_)
             have q107 : (ji22) < (l0.length : Int) := of_decide_eq_true (ph70_)
             obtain ⟨ad107, e107, hx107_0, hx107_1⟩ := at_T103 HR0.out (ji22) p107 q107
             have hw107_1 := hx107_1
             have hw107_0 := hx107_0
             obtain rfl : ad104 = ad107 := (by injection e107)
             replace hx107_0 := (HB.out.cell (World.block_lt_of_cell? w _ hx107_0)).trans hx107_0
             replace hx107_1 := (HB.out.cell (World.block_lt_of_cell? w _ hx107_1)).trans hx107_1
             replace p107 := eq_true p107
             replace q107 := eq_true q107
             lh747_
             generalize w28.drew = w29 at BK105 HB hx107_0 hx107_1 hHeld ⊢
             lh78_
             rotate_left
             ·intro w'
              go_simp
              with_reducible rfl
             rotate_left
             ·qp_
              rfl
             lh79_
             rotate_left
             ·rintro w' ⟨s0, s1, s2, s3⟩
              go_simp
              with_reducible rfl
             rotate_left
             ·qp_
              rfl
             lh710_
             rotate_left
             ·intro w'
              go_simp
              with_reducible rfl
             rotate_left
             ·qp_
              rfl
             lh711_
             rotate_left
             ·intro w'
              go_simp
              with_reducible rfl
             rotate_left
             ·qp_
              rfl
             lh737_
             rotate_left
             ·intro w'
              go_simp
              with_reducible rfl
             rotate_left
             ·qp_
              rfl
             lh738_
             rotate_left
             ·intro w'
              go_simp
              with_reducible rfl
             rotate_left
             ·qp_
              rfl
             lh739_
             rotate_left
             ·rintro w' ⟨s0, s1, s2, s3⟩
              go_simp
              with_reducible rfl
             rotate_left
             ·qp_
              rfl
             lh740_
             rotate_left
             ·rintro w' ⟨s0, s1, s2, s3⟩
              go_simp
              with_reducible rfl
             rotate_left
             ·qp_
              rfl
             lh741_
             rotate_left
             ·intro w'
              go_simp
              with_reducible rfl
             rotate_left
             ·qp_
              rfl
             lh712_
             rotate_left
             ·intro w'
              go_simp
              with_reducible rfl
             rotate_left
             ·qp_
              rfl
             lh713_
             rotate_left
             ·intro w'
              go_simp
              with_reducible rfl
             rotate_left
             ·qp_
              rfl
             lh742_
             rotate_left
             ·intro w'
              go_simp
              with_reducible rfl
             rotate_left
             ·qp_
              rfl
             lh743_
             rotate_left
             ·rintro w' ⟨s0, s1, s2, s3⟩
              go_simp
              with_reducible rfl
             rotate_left
             ·qp_
              rfl
             lh744_
             lh745_
             with_reducible refine (varint_Size.calls ((rd_T103 l0 x7_1).f1) t106 _ A15.out).mono ?_
             rintro e w' ⟨rfl, ⟨nd, rfl⟩⟩
             refine ⟨_, rfl, ?_⟩
             lh748_
             clear hK K
             refine norm_ (a' := ?_) ?_ ?_
             rotate_left
             ·show Act.put _ (some 25) _ = _
              qp_
              rfl
             lh746_
             rotate_left
             ·intro w'
              go_simp
              with_reducible rfl
             rotate_left
             ·qp_
              rfl
             lh718_
             rotate_left
             ·intro w'
              go_simp
              with_reducible rfl
             rotate_left
             ·qp_
              rfl
             lh719_
             rotate_left
             ·intro w'
              go_simp
              with_reducible rfl
             rotate_left
             ·qp_
              rfl
             lh749_
             rotate_left
             ·intro w'
              go_simp
              with_reducible rfl
             rotate_left
             ·qp_
              rfl
             lh750_
             rotate_left
             ·intro w'
              go_simp
              with_reducible rfl
             rotate_left
             ·qp_
              rfl
             lh751_
             rotate_left
             ·intro w'
              go_simp
              with_reducible rfl
             rotate_left
             ·qp_
              rfl
             lh752_
             rotate_left
             ·intro w'
              go_simp
              with_reducible rfl
             rotate_left
             ·qp_
              rfl
             lh753_
             rotate_left
             ·intro w'
              go_simp
              with_reducible rfl
             rotate_left
             ·qp_
              rfl
             lh754_
             rotate_left
             ·intro w'
              go_simp
              with_reducible rfl
             rotate_left
             ·qp_
              rfl
             lh755_
             rotate_left
             ·intro w'
              go_simp
              with_reducible rfl
             rotate_left
             ·qp_
              rfl
             lh756_
             rotate_left
             ·intro w'
              go_simp
              with_reducible rfl
             rotate_left
             ·qp_
              rfl
             lh757_
             rotate_left
             ·intro w'
              go_simp
              with_reducible rfl
             rotate_left
             ·qp_
              rfl
             lh758_
             rotate_left
             ·rintro w' ⟨s0, s1, s2, s3⟩
              go_simp
              with_reducible rfl
             rotate_left
             ·qp_
              rfl
             lh759_
             rotate_left
             ·rintro w' ⟨s0, s1, s2, s3⟩
              go_simp
              with_reducible rfl
             rotate_left
             ·qp_
              rfl
             lh760_
             rotate_left
             ·intro w'
              go_simp
              with_reducible rfl
             rotate_left
             ·qp_
              rfl
             lh761_
             rotate_left
             ·intro w'
              go_simp
              with_reducible rfl
             rotate_left
             ·qp_
              rfl
             lh762_
             rotate_left
             ·intro w'
              go_simp
              with_reducible rfl
             rotate_left
             ·qp_
              rfl
             lh734_
             rotate_left
             ·intro w'
              go_simp
              with_reducible rfl
             rotate_left
             ·qp_
              rfl
             lh735_
             try go_wp2
             go_ret
             exact ⟨by first | rfl | (simp [errW_none, errW_some] <;> rfl) | (simp only [← hji22]; first | rfl | (simp [errW_none, errW_some] <;> rfl)) | (simp [*, errW_none, errW_some] <;> rfl), by qb1_ GE105⟩
            ·rw [if_neg c25] at H
             have c25b0 : decide ((wrap64 (((rd_T103 l0 (ji22)).f0) - 2)) < ((rd_T103 l0 x7_1).f1)) = false := decide_eq_false c25
             clear c25
             have H' := Aside0.mk H
             clear H
             lh70_
             lh71_
             lh72_
             cases e104
             lh73_
             lh74_
             replace p104 := eq_true p104
             replace q104 := eq_true q104
             try go_wp2_with (first | ((with_reducible refine gate_dst (N := 4) rfl ?_); (try (refine gate_guard (by rfl) ?_; dsimp only)); refine box_event ?hg (N := 4) ?hd (cs := #[.int .i64 0, .int .i64 0]) (t := 103) ?hr ?_; (case hd => rfl); (case hg => rfl); (case hr => first | (go_simp; done) | (go_simp; rfl)); intro gb105 hg w30 hbox hb; have n0_ := Aside0.mk (below_step (by qc0_) hb); have n1_ := Aside0.mk (hbox); have n2_ := Aside0.mk ((ph71_)); have n3_ := Aside0.mk ((ph71_)); clear HB; have HB := n0_; have BK105 := n1_; have GW105 := n2_; have GE105 := n3_; clear n0_ n1_ n2_ n3_; clear hb hbox hg; have hcz31_0 : w30.cell? ⟨gb105, 0, none⟩ = some (.int .i64 0) := (blk_cell BK105.out 0).trans rfl; have hcz31_1 : w30.cell? ⟨gb105, 1, none⟩ = some (.int .i64 0) := (blk_cell BK105.out 1).trans rfl; have hfz31_0 := blk_frozen BK105.out 0; have hfz31_1 := blk_frozen BK105.out 1))
             have n0_ : Aside0 (((w30.setCell ⟨gb105, 0, none⟩ (.int .i64 ((rd_T103 l0 x7_1).f0))).setCell ⟨gb105, 1, none⟩ (.int .i64 ((rd_T103 l0 x7_1).f1))).heap[gb105]? = some ((oh70_))) := ⟨by qk_; refine blk_put (cs := #[.int .i64 ((rd_T103 l0 x7_1).f0), .int .i64 0]) ?_ 1 _ rfl; qk_; refine blk_put (cs := #[.int .i64 0, .int .i64 0]) ?_ 0 _ rfl; qk_; exact BK105.out⟩
             have n1_ : Aside0 (Below w.heap.size w ((w30.setCell ⟨gb105, 0, none⟩ (.int .i64 ((rd_T103 l0 x7_1).f0))).setCell ⟨gb105, 1, none⟩ (.int .i64 ((rd_T103 l0 x7_1).f1)))) := ⟨by qb1_ GE105⟩
             (try clear BK105)
             (try clear HB)
             generalize ((w30.setCell ⟨gb105, 0, none⟩ (.int .i64 ((rd_T103 l0 x7_1).f0))).setCell ⟨gb105, 1, none⟩ (.int .i64 ((rd_T103 l0 x7_1).f1))) = w32 at n0_ n1_ ⊢
             have BK105 := n0_
             have HB := n1_
             clear n0_ n1_
             lh75_
             lh76_
             clear BK105
             clear HB
             have BK105 := n0_
             have HB := n1_
             clear n0_ n1_
             have p107 : 0 ≤ ((ji22) : Int) := of_decide_eq_true (ph70_)
             have q107 : (ji22) < (l0.length : Int) := of_decide_eq_true (ph70_)
             obtain ⟨ad107, e107, hx107_0, hx107_1⟩ := at_T103 HR0.out (ji22) p107 q107
             have hw107_1 := hx107_1
             have hw107_0 := hx107_0
             obtain rfl : ad104 = ad107 := (by injection e107)
             replace hx107_0 := (HB.out.cell (World.block_lt_of_cell? w _ hx107_0)).trans hx107_0
             replace hx107_1 := (HB.out.cell (World.block_lt_of_cell? w _ hx107_1)).trans hx107_1
             replace p107 := eq_true p107
             replace q107 := eq_true q107
             lh747_
             generalize w32.drew = w33 at BK105 HB hx107_0 hx107_1 hHeld ⊢
             lh78_
             rotate_left
             ·intro w'
              go_simp
              with_reducible rfl
             rotate_left
             ·qp_
              rfl
             lh79_
             rotate_left
             ·rintro w' ⟨s0, s1, s2, s3⟩
              go_simp
              with_reducible rfl
             rotate_left
             ·qp_
              rfl
             lh710_
             rotate_left
             ·intro w'
              go_simp
              with_reducible rfl
             rotate_left
             ·qp_
              rfl
             lh711_
             rotate_left
             ·intro w'
              go_simp
              with_reducible rfl
             rotate_left
             ·qp_
              rfl
             lh737_
             rotate_left
             ·intro w'
              go_simp
              with_reducible rfl
             rotate_left
             ·qp_
              rfl
             lh738_
             rotate_left
             ·intro w'
              go_simp
              with_reducible rfl
             rotate_left
             ·qp_
              rfl
             lh739_
             rotate_left
             ·rintro w' ⟨s0, s1, s2, s3⟩
              go_simp
              with_reducible rfl
             rotate_left
             ·qp_
              rfl
             lh740_
             rotate_left
             ·rintro w' ⟨s0, s1, s2, s3⟩
              go_simp
              with_reducible rfl
             rotate_left
             ·qp_
              rfl
             lh741_
             rotate_left
             ·intro w'
              go_simp
              with_reducible rfl
             rotate_left
             ·qp_
              rfl
             lh712_
             rotate_left
             ·intro w'
              go_simp
              with_reducible rfl
             rotate_left
             ·qp_
              rfl
             lh713_
             rotate_left
             ·intro w'
              go_simp
              with_reducible rfl
             rotate_left
             ·qp_
              rfl
             lh742_
             rotate_left
             ·intro w'
              go_simp
              with_reducible rfl
             rotate_left
             ·qp_
              rfl
             lh743_
             rotate_left
             ·rintro w' ⟨s0, s1, s2, s3⟩
              go_simp
              with_reducible rfl
             rotate_left
             ·qp_
              rfl
             lh744_
             lh745_
             with_reducible refine (varint_Size.calls ((rd_T103 l0 x7_1).f1) t106 _ A15.out).mono ?_
             rintro e w' ⟨rfl, ⟨nd, rfl⟩⟩
             refine ⟨_, rfl, ?_⟩
             lh748_
             clear hK K
             refine norm_ (a' := ?_) ?_ ?_
             rotate_left
             ·show Act.put _ (some 25) _ = _
              qp_
              rfl
             lh746_
             rotate_left
             ·intro w'
              go_simp
              with_reducible rfl
             rotate_left
             ·qp_
              rfl
             lh718_
             rotate_left
             ·intro w'
              go_simp
              with_reducible rfl
             rotate_left
             ·qp_
              rfl
             lh719_
             rotate_left
             ·intro w'
              go_simp
              with_reducible rfl
             rotate_left
             ·qp_
              rfl
             lh749_
             rotate_left
             ·intro w'
              go_simp
              with_reducible rfl
             rotate_left
             ·qp_
              rfl
             lh750_
             rotate_left
             ·intro w'
              go_simp
              with_reducible rfl
             rotate_left
             ·qp_
              rfl
             lh751_
             rotate_left
             ·intro w'
              go_simp
              with_reducible rfl
             rotate_left
             ·qp_
              rfl
             lh752_
             rotate_left
             ·intro w'
              go_simp
              with_reducible rfl
             rotate_left
             ·qp_
              rfl
             lh753_
             rotate_left
             ·intro w'
              go_simp
              with_reducible rfl
             rotate_left
             ·qp_
              rfl
             lh754_
             rotate_left
             ·intro w'
              go_simp
              with_reducible rfl
             rotate_left
             ·qp_
              rfl
             lh755_
             rotate_left
             ·intro w'
              go_simp
              with_reducible rfl
             rotate_left
             ·qp_
              rfl
             lh756_
             rotate_left
             ·intro w'
              go_simp
              with_reducible rfl
             rotate_left
             ·qp_
              rfl
             lh757_
             rotate_left
             ·intro w'
              go_simp
              with_reducible rfl
             rotate_left
             ·qp_
              rfl
             lh758_
             rotate_left
             ·rintro w' ⟨s0, s1, s2, s3⟩
              go_simp
              with_reducible rfl
             rotate_left
             ·qp_
              rfl
             lh759_
             rotate_left
             ·rintro w' ⟨s0, s1, s2, s3⟩
              go_simp
              with_reducible rfl
             rotate_left
             ·qp_
              rfl
             lh760_
             rotate_left
             ·intro w'
              go_simp
              with_reducible rfl
             rotate_left
             ·qp_
              rfl
             lh761_
             rotate_left
             ·intro w'
              go_simp
              with_reducible rfl
             rotate_left
             ·qp_
              rfl
             lh762_
             rotate_left
             ·intro w'
              go_simp
              with_reducible rfl
             rotate_left
             ·qp_
              rfl
             lh734_
             rotate_left
             ·intro w'
              go_simp
              with_reducible rfl
             rotate_left
             ·qp_
              rfl
             lh735_
             try go_wp2
             go_roundg k1
             case measure => have := HK1.out; omega
             case rel => exact ⟨(wrap64 (x7_1 + 1)), (by first | rfl | (simp; done) | (simp [*]; done)), H', ⟨by have := HK1.out; omega⟩, ⟨by qb1_ GE105⟩⟩
           ·rw [if_neg c24] at H
            exact absurd H (by simp)
          ·rw [if_neg c23] at H
           exact absurd H (by simp)
         ·rw [if_neg c21] at H
          have c21b0 : decide (0 < x7_1) = false := decide_eq_false c21
          clear c21
          have H' := Aside0.mk H
          clear H
          lh70_
          lh71_
          lh72_
          cases e104
          lh73_
          lh74_
          replace p104 := eq_true p104
          replace q104 := eq_true q104
          try go_wp2_with (first | ((with_reducible refine gate_dst (N := 4) rfl ?_); (try (refine gate_guard (by rfl) ?_; dsimp only)); refine box_event ?hg (N := 4) ?hd (cs := #[.int .i64 0, .int .i64 0]) (t := 103) ?hr ?_; (case hd => rfl); (case hg => rfl); (case hr => first | (go_simp; done) | (go_simp; rfl)); intro gb105 hg w34 hbox hb; have n0_ := Aside0.mk (below_step (by qc0_) hb); have n1_ := Aside0.mk (hbox); have n2_ := Aside0.mk ((ph71_)); have n3_ := Aside0.mk ((ph71_)); clear HB; have HB := n0_; have BK105 := n1_; have GW105 := n2_; have GE105 := n3_; clear n0_ n1_ n2_ n3_; clear hb hbox hg; have hcz35_0 : w34.cell? ⟨gb105, 0, none⟩ = some (.int .i64 0) := (blk_cell BK105.out 0).trans rfl; have hcz35_1 : w34.cell? ⟨gb105, 1, none⟩ = some (.int .i64 0) := (blk_cell BK105.out 1).trans rfl; have hfz35_0 := blk_frozen BK105.out 0; have hfz35_1 := blk_frozen BK105.out 1))
          have n0_ : Aside0 (((w34.setCell ⟨gb105, 0, none⟩ (.int .i64 ((rd_T103 l0 x7_1).f0))).setCell ⟨gb105, 1, none⟩ (.int .i64 ((rd_T103 l0 x7_1).f1))).heap[gb105]? = some ((oh70_))) := ⟨by qk_; refine blk_put (cs := #[.int .i64 ((rd_T103 l0 x7_1).f0), .int .i64 0]) ?_ 1 _ rfl; qk_; refine blk_put (cs := #[.int .i64 0, .int .i64 0]) ?_ 0 _ rfl; qk_; exact BK105.out⟩
          have n1_ : Aside0 (Below w.heap.size w ((w34.setCell ⟨gb105, 0, none⟩ (.int .i64 ((rd_T103 l0 x7_1).f0))).setCell ⟨gb105, 1, none⟩ (.int .i64 ((rd_T103 l0 x7_1).f1)))) := ⟨by qb1_ GE105⟩
          (try clear BK105)
          (try clear HB)
          generalize ((w34.setCell ⟨gb105, 0, none⟩ (.int .i64 ((rd_T103 l0 x7_1).f0))).setCell ⟨gb105, 1, none⟩ (.int .i64 ((rd_T103 l0 x7_1).f1))) = w36 at n0_ n1_ ⊢
          have BK105 := n0_
          have HB := n1_
          clear n0_ n1_
          lh75_
          lh76_
          clear BK105
          clear HB
          have BK105 := n0_
          have HB := n1_
          clear n0_ n1_
          lh77_
          generalize w36.drew = w37 at BK105 HB hHeld ⊢
          lh78_
          rotate_left
          ·intro w'
           go_simp
           with_reducible rfl
          rotate_left
          ·qp_
           rfl
          lh79_
          rotate_left
          ·rintro w' ⟨s0, s1⟩
           go_simp
           with_reducible rfl
          rotate_left
          ·qp_
           rfl
          lh710_
          rotate_left
          ·intro w'
           go_simp
           with_reducible rfl
          rotate_left
          ·qp_
           rfl
          lh711_
          rotate_left
          ·intro w'
           go_simp
           with_reducible rfl
          rotate_left
          ·qp_
           rfl
          lh737_
          rotate_left
          ·intro w'
           go_simp
           with_reducible rfl
          rotate_left
          ·qp_
           rfl
          lh738_
          rotate_left
          ·intro w'
           go_simp
           with_reducible rfl
          rotate_left
          ·qp_
           rfl
          lh739_
          rotate_left
          ·rintro w' ⟨s0, s1⟩
           go_simp
           with_reducible rfl
          rotate_left
          ·qp_
           rfl
          lh740_
          rotate_left
          ·rintro w' ⟨s0, s1⟩
           go_simp
           with_reducible rfl
          rotate_left
          ·qp_
           rfl
          lh741_
          rotate_left
          ·intro w'
           go_simp
           with_reducible rfl
          rotate_left
          ·qp_
           rfl
          lh712_
          rotate_left
          ·intro w'
           go_simp
           with_reducible rfl
          rotate_left
          ·qp_
           rfl
          lh713_
          rotate_left
          ·intro w'
           go_simp
           with_reducible rfl
          rotate_left
          ·qp_
           rfl
          lh742_
          rotate_left
          ·intro w'
           go_simp
           with_reducible rfl
          rotate_left
          ·qp_
           rfl
          lh743_
          rotate_left
          ·rintro w' ⟨s0, s1⟩
           go_simp
           with_reducible rfl
          rotate_left
          ·qp_
           rfl
          lh744_
          lh745_
          with_reducible refine (varint_Size.calls ((rd_T103 l0 x7_1).f1) t106 _ A15.out).mono ?_
          rintro e w' ⟨rfl, ⟨nd, rfl⟩⟩
          refine ⟨_, rfl, ?_⟩
          refine hK.out _ _ ⟨(blk_cell BK105.out 0).trans rfl, (blk_cell BK105.out 1).trans rfl⟩ (fun hHeld => ?_)
          clear hK K
          refine norm_ (a' := ?_) ?_ ?_
          rotate_left
          ·show Act.put _ (some 25) _ = _
           qp_
           rfl
          lh746_
          rotate_left
          ·intro w'
           go_simp
           with_reducible rfl
          rotate_left
          ·qp_
           rfl
          lh718_
          rotate_left
          ·intro w'
           go_simp
           with_reducible rfl
          rotate_left
          ·qp_
           rfl
          lh719_
          rotate_left
          ·intro w'
           go_simp
           with_reducible rfl
          rotate_left
          ·qp_
           rfl
          lh749_
          rotate_left
          ·intro w'
           go_simp
           with_reducible rfl
          rotate_left
          ·qp_
           rfl
          lh750_
          rotate_left
          ·intro w'
           go_simp
           with_reducible rfl
          rotate_left
          ·qp_
           rfl
          lh751_
          rotate_left
          ·intro w'
           go_simp
           with_reducible rfl
          rotate_left
          ·qp_
           rfl
          lh723_
          rotate_left
          ·qp_
           rfl
          lh724_
          rotate_left
          ·qp_
           rfl
          lh725_
          rotate_left
          ·qp_
           rfl
          lh726_
          rotate_left
          ·qp_
           rfl
          lh727_
          rotate_left
          ·qp_
           rfl
          lh728_
          rotate_left
          ·qp_
           rfl
          lh729_
          rotate_left
          ·qp_
           rfl
          lh730_
          rotate_left
          ·qp_
           rfl
          lh731_
          rotate_left
          ·qp_
           rfl
          lh732_
          rotate_left
          ·qp_
           rfl
          lh762_
          rotate_left
          ·intro w'
           go_simp
           with_reducible rfl
          rotate_left
          ·qp_
           rfl
          lh734_
          rotate_left
          ·intro w'
           go_simp
           with_reducible rfl
          rotate_left
          ·qp_
           rfl
          lh735_
          try go_wp2
          go_roundg k1
          case measure => have := HK1.out; omega
          case rel => exact ⟨(wrap64 (x7_1 + 1)), (by first | rfl | (simp; done) | (simp [*]; done)), H', ⟨by have := HK1.out; omega⟩, ⟨by qb1_ GE105⟩⟩
     ·rw [if_neg c4] at H
      exact absurd H (by simp)
    ·rw [if_neg c3] at H
     exact absurd H (by simp)
   ·rw [if_neg c2] at H
    have c2b0 : decide (x7_1 < (l0.length : Int)) = false := decide_eq_false c2
    clear c2
    by_cases c38 : (l0.length : Int) > 0
    ·rw [if_pos c38] at H
     have c38b0 : decide (0 < (l0.length : Int)) = true := decide_eq_true c38
     have c38b1 : decide (0 < l0.length) = true := decide_eq_true (by omega)
     clear c38
     obtain rfl := Option.some.inj H
     go_wp2
     go_ret
     exact ⟨by first | rfl | (simp [errW_none, errW_some] <;> rfl) | (simp [*, errW_none, errW_some] <;> rfl), by qc0_⟩
    ·rw [if_neg c38] at H
     have c38b0 : decide (0 < (l0.length : Int)) = false := decide_eq_false c38
     have c38b1 : decide (0 < l0.length) = false := decide_eq_false (by omega)
     clear c38
     obtain rfl := Option.some.inj H
     go_wp2
     go_ret
     exact ⟨by first | rfl | (simp [errW_none, errW_some] <;> rfl) | (simp [*, errW_none, errW_some] <;> rfl), by qc0_⟩
end Go.Proofs.YtbcleckapamicaaDoor.QFr
