/- A part of the proof of the law HeaderBack: QHbx0, Opn, PrmHeaderBack, PureHeaderBack, Tab. -/
import Derived.Test.YtbcleckapamicaaDoorZHb07
import Derived.Test.YtbcleckapamicaaDoorZHb00
import Derived.Deep.Slices
import Derived.WideShapes
import Derived.ProofKit
import Derived.Test.YtbcleckapamicaaDoorRows
import Derived.Test.YtbcleckapamicaaDoorZHb02
import Derived.LaidLaws
import Derived.Lib.LaidTab
import Derived.Stop.LaidErr
namespace Go.Proofs.YtbcleckapamicaaDoor.QHb
open Go Go.RowKit Go.Proofs.YtbcleckapamicaaDoorW.PrintWords Go.Proofs.YtbcleckapamicaaDoorW.PrintLast Go.Proofs.YtbcleckapamicaaDoorW.PrintMore Go.Proofs.YtbcleckapamicaaDoor.QHe Go.Proofs.YtbcleckapamicaaDoor.HeP Go.Proofs.YtbcleckapamicaaDoor.Hr Go.Proofs.YtbcleckapamicaaDoor.HrP Go.Proofs.YtbcleckapamicaaDoor.QHc
open Go.Proofs.YtbcleckapamicaaDoor.Gv (TB TB.below TB.alloc)
open Go.Proofs.YtbcleckapamicaaDoor.QTl (shibbolethlaw05_told.f shibbolethlaw05_told.calls)
attribute [local go_sem] max2_int min2_int max_two min_two max_three min_three max_four min_four
set_option linter.unusedVariables false
set_option linter.unusedSimpArgs false
set_option hygiene false
local macro "ps180_" : term => `((by rw [World.cell?_alloc_at _ _ _ _ rfl]; rfl))
local macro "ls180_" : tactic => `(tactic| (exact ⟨rfl, by have h1 := HB1.out; rw [HWB.out] at h1; exact below_step HBB.out h1⟩))
set_option hygiene true
theorem back_all {a0 a1 : Int} {l2 l3 l4 : List Int} {a5 a6 a7 : Int} (h : hright a0 a1 l2 l3 l4 a5 a6 a7) (body behind : List Int) (hb : body.length ≤ 300) (hb' : behind.length ≤ 300) :
  hread (hbytes a0 a1 l2 l3 l4 a5 a6 a7 (body.length : Int) ++ body ++ (if a0 = 3 then [] else behind)) = .ok ((a0, a1, l2, l3, l4, a5, a6, a7), (hbytes a0 a1 l2 l3 l4 a5 a6 a7 (body.length : Int)).length, ((hbytes a0 a1 l2 l3 l4 a5 a6 a7 (body.length : Int) ++ body).length : Int)) := by
 unfold hright at h
 obtain ⟨h7, h7', h6, h6', (⟨rfl, rfl, h2, h3, h4, h5⟩ | ⟨h0, h3, h1, h1', h2, h3', h5, h4, h40⟩)⟩ := h
 ·obtain rfl := List.eq_nil_of_length_eq_zero h3
  obtain rfl := List.eq_nil_of_length_eq_zero h4
  have e : hbytes 3 0 l2 [] [] a5 a6 a7 (body.length : Int) = [63 + 4 * a5 + a7] ++ l2 ++ hbig a6 a7 := if_pos rfl
  rw [e, if_pos rfl, List.append_nil]
  exact read_short a5 a6 a7 l2 body h7 h7' h6 h6' h2 h5
 ·obtain rfl := h5
  rw [if_neg (by omega), hbytes_long _ _ _ _ _ _ _ _ _ (by omega), List.append_assoc]
  have := read_long a0 a1 a6 a7 (body.length : Int) l2 l3 l4 (body ++ behind) h0 h3 h7 h7' h6 h6' h1 h1' h2 h3' h4 h40 (by omega) (by rw [List.length_append]; omega) (by rw [List.length_append]; omega)
  rw [this, List.length_append]
  simp
theorem bt_app {a b : List Int} (ha : Bt a) (hb : Bt b) : Bt (a ++ b) := fun x hx => (List.mem_append.1 hx).elim (ha x) (hb x)
theorem told_f (a0 a1 : Int) (l2 l3 l4 : List Int) (a5 a6 a7 : Int) (h2 : l2.length ≤ 1000) (h3 : l3.length ≤ 1000) (h4 : l4.length ≤ 1000) : shibbolethlaw05_told.f 3000 a0 a1 l2 l3 l4 a5 a6 a7 a0 a1 l2 l3 l4 a5 a6 a7 = some true := by
 unfold shibbolethlaw05_told.f
 rw [if_pos rfl, if_pos rfl, same_f _ (by omega) 3000 (by omega), same_f _ (by omega) 3000 (by omega), same_f _ (by omega) 3000 (by omega)]
 simp
def Qc (b : Nat) (W : World) (l : List Value) : Prop := W.cell? ⟨b, 0, none⟩ = l[0]? ∧ W.cell? ⟨b, 1, none⟩ = l[1]? ∧ W.cell? ⟨b, 2, none⟩ = l[2]? ∧ W.cell? ⟨b, 3, none⟩ = l[3]? ∧ W.cell? ⟨b, 4, none⟩ = l[4]? ∧ W.cell? ⟨b, 5, none⟩ = l[5]? ∧ W.cell? ⟨b, 6, none⟩ = l[6]? ∧ W.cell? ⟨b, 7, none⟩ = l[7]?
def shibbolethlaw05_HeaderBack.f (a0_0 : Int) (a0_1 : Int) (l0_2 : List Int) (l0_3 : List Int) (l0_4 : List Int) (a0_5 : Int) (a0_6 : Int) (a0_7 : Int) (l1 : List Int) (l2 : List Int) : Option Bool := if Bt l0_2 ∧ Bt l0_3 ∧ Bt l0_4 ∧ Bt l1 ∧ Bt l2 then some true else none
set_option maxHeartbeats 4000000 in
set_option maxRecDepth 100000 in
theorem shibbolethlaw05_HeaderBack.calls (a0_0 : Int) (a0_1 : Int) (A0_2 : Option Addr) (c0_2 : Nat) (l0_2 : List Int) (A0_3 : Option Addr) (c0_3 : Nat) (l0_3 : List Int) (A0_4 : Option Addr) (c0_4 : Nat) (l0_4 : List Int) (a0_5 : Int) (a0_6 : Int) (a0_7 : Int) (A1 : Option Addr) (c1 : Nat) (l1 : List Int) (A2 : Option Addr) (c2 : Nat) (l2 : List Int) (r : Bool) (w : World) (hr0_2 : Kd.C (Kd.int .u8) w A0_2 l0_2.length l0_2) (hc0_2 : l0_2.length ≤ c0_2) (hr0_3 : Kd.C (Kd.int .u8) w A0_3 l0_3.length l0_3) (hc0_3 : l0_3.length ≤ c0_3) (hr0_4 : Kd.C (Kd.int .u8) w A0_4 l0_4.length l0_4) (hc0_4 : l0_4.length ≤ c0_4) (hr1 : Kd.C (Kd.int .u8) w A1 l1.length l1) (hc1 : l1.length ≤ c1) (hr2 : Kd.C (Kd.int .u8) w A2 l2.length l2) (hc2 : l2.length ≤ c2) (ht : TB w) (h : shibbolethlaw05_HeaderBack.f a0_0 a0_1 l0_2 l0_3 l0_4 a0_5 a0_6 a0_7 l1 l2 = some r) :
  Calls Tryd.prog 12 #[.agg #[.int .i64 a0_0, .int .i64 a0_1, .slice A0_2 l0_2.length c0_2, .slice A0_3 l0_3.length c0_3, .slice A0_4 l0_4.length c0_4, .int .i64 a0_5, .int .i64 a0_6, .int .i64 a0_7], .slice A1 l1.length c1, .slice A2 l2.length c2] w fun e w' => e = .returned (.bool r) ∧ Below w.heap.size w w' := by
 unfold shibbolethlaw05_HeaderBack.f at h
 by_cases hall : Bt l0_2 ∧ Bt l0_3 ∧ Bt l0_4 ∧ Bt l1 ∧ Bt l2
 rotate_left
 ·rw [if_neg hall] at h; cases h
 rw [if_pos hall] at h
 obtain rfl := Option.some.inj h
 obtain ⟨hb2, hb3, hb4, hbb1, hbb2⟩ := hall
 clear h
 obtain ⟨wb, hwb⟩ : ∃ wb, w.alloc (.cells #[.int .i64 a0_0, .int .i64 a0_1, .slice A0_2 l0_2.length c0_2, .slice A0_3 l0_3.length c0_3, .slice A0_4 l0_4.length c0_4, .int .i64 a0_5, .int .i64 a0_6, .int .i64 a0_7] 44) = wb := ⟨_, rfl⟩
 have hbb : Below w.heap.size w wb := by rw [← hwb]; exact below_alloc (Below.refl _ _) _
 have LT := shibbolethlaw05_light.calls a0_0 a0_1 A0_2 c0_2 l0_2 A0_3 c0_3 l0_3 A0_4 c0_4 l0_4 a0_5 a0_6 a0_7 _ wb (Kd.C_below hr0_2 hbb) hc0_2 (Kd.C_below hr0_3 hbb) hc0_3 (Kd.C_below hr0_4 hbb) hc0_4 (light_f _ _ _ _ _ _ _ _)
 by_cases hgo : lightB l0_2 l0_3 l0_4 = true ∧ (l1.length : Int) ≤ 300 ∧ (l2.length : Int) ≤ 300
 rotate_left
 ·by_cases hl : lightB l0_2 l0_3 l0_4 = true
  ·by_cases hg1 : (l1.length : Int) ≤ 300
   ·have hg2 : ¬ (l2.length : Int) ≤ 300 := fun q => hgo ⟨hl, hg1, q⟩
    rw [hl, ← hwb] at LT
    have HBB := Aside0.mk hbb
    have HWB := Aside0.mk hwb
    have g1 : ¬ (300 : Int) < (l1.length : Int) := by omega
    have g2 : (300 : Int) < (l2.length : Int) := by omega
    clear hgo hl hb2 hb3 hb4 hr0_2 hr0_3 hr0_4 hc0_2 hc0_3 hc0_4 ht hbb hwb hr1 hr2 hbb1 hbb2
    go_enter Tryd.func12, Tryd.ntmps12
    go_wp2_with (go_at_call 33; refine LT.mono ?_; rintro e1 w1 ⟨rfl, hb1⟩; have HB1 := Aside0.mk hb1; clear hb1)
    go_ret
    ls180_
   ·rw [hl, ← hwb] at LT
    have HBB := Aside0.mk hbb
    have HWB := Aside0.mk hwb
    have g1 : (300 : Int) < (l1.length : Int) := by omega
    clear hgo hl hb2 hb3 hb4 hr0_2 hr0_3 hr0_4 hc0_2 hc0_3 hc0_4 ht hbb hwb hr1 hr2 hbb1 hbb2
    go_enter Tryd.func12, Tryd.ntmps12
    go_wp2_with (go_at_call 33; refine LT.mono ?_; rintro e1 w1 ⟨rfl, hb1⟩; have HB1 := Aside0.mk hb1; clear hb1)
    go_ret
    ls180_
  ·have hl' : lightB l0_2 l0_3 l0_4 = false := by simpa using hl
   rw [hl', ← hwb] at LT
   have HBB := Aside0.mk hbb
   have HWB := Aside0.mk hwb
   clear hgo hl hl' hb2 hb3 hb4 hr0_2 hr0_3 hr0_4 hc0_2 hc0_3 hc0_4 ht hbb hwb hr1 hr2 hbb1 hbb2
   go_enter Tryd.func12, Tryd.ntmps12
   go_wp2_with (go_at_call 33; refine LT.mono ?_; rintro e1 w1 ⟨rfl, hb1⟩; have HB1 := Aside0.mk hb1; clear hb1)
   go_ret
   ls180_
 ·obtain ⟨hl, hg1, hg2⟩ := hgo
  rw [hl, ← hwb] at LT
  have hlen : l0_2.length ≤ 100 ∧ l0_3.length ≤ 100 ∧ l0_4.length ≤ 200 := by have := of_decide_eq_true hl; omega
  have g1 : ¬ (300 : Int) < (l1.length : Int) := by omega
  have g2 : ¬ (300 : Int) < (l2.length : Int) := by omega
  have C2 := Aside0.mk hr0_2
  have C3 := Aside0.mk hr0_3
  have C4 := Aside0.mk hr0_4
  have C5 := Aside0.mk hr1
  have C6 := Aside0.mk hr2
  have L2 := Aside0.mk hc0_2
  have L3 := Aside0.mk hc0_3
  have L4 := Aside0.mk hc0_4
  have L5 := Aside0.mk hc1
  have L6 := Aside0.mk hc2
  have HT := Aside0.mk ht
  have HB := Aside0.mk (show Bt l0_2 ∧ Bt l0_3 ∧ Bt l0_4 ∧ Bt l1 ∧ Bt l2 from ⟨hb2, hb3, hb4, hbb1, hbb2⟩)
  have HLEN := Aside0.mk (show l0_2.length ≤ 100 ∧ l0_3.length ≤ 100 ∧ l0_4.length ≤ 200 ∧ l1.length ≤ 300 ∧ l2.length ≤ 300 from ⟨hlen.1, hlen.2.1, hlen.2.2, by omega, by omega⟩)
  have HBB := Aside0.mk hbb
  have HWB := Aside0.mk hwb
  clear hl hb2 hb3 hb4 hr0_2 hr0_3 hr0_4 hc0_2 hc0_3 hc0_4 ht hlen hbb hwb hg1 hg2 hr1 hr2 hc1 hc2 hbb1 hbb2
  obtain ⟨rw_, hrw⟩ : ∃ x, (if hright a0_0 a0_1 l0_2 l0_3 l0_4 a0_5 a0_6 a0_7 ∧ (0 : Int) ≤ (l1.length : Int) ∧ (l1.length : Int) ≤ 16384 then hbytes a0_0 a0_1 l0_2 l0_3 l0_4 a0_5 a0_6 a0_7 (l1.length : Int) else []) = x := ⟨_, rfl⟩
  have HRW := Aside0.mk hrw
  clear hrw
  go_enter Tryd.func12, Tryd.ntmps12
  go_upto_region 3 with (go_at_call 33; refine LT.mono ?_; rintro e1 w1 ⟨rfl, hb1⟩; have HB1 := Aside0.mk hb1; have q0 : w1.cell? ⟨w.heap.size, 0, none⟩ = some (.int .i64 a0_0) := pw_cell_below hb1 (ps180_); have q1 : w1.cell? ⟨w.heap.size, 1, none⟩ = some (.int .i64 a0_1) := pw_cell_below hb1 (ps180_); have q2 : w1.cell? ⟨w.heap.size, 2, none⟩ = some (.slice A0_2 l0_2.length c0_2) := pw_cell_below hb1 (ps180_); have q3 : w1.cell? ⟨w.heap.size, 3, none⟩ = some (.slice A0_3 l0_3.length c0_3) := pw_cell_below hb1 (ps180_); have q4 : w1.cell? ⟨w.heap.size, 4, none⟩ = some (.slice A0_4 l0_4.length c0_4) := pw_cell_below hb1 (ps180_); have q5 : w1.cell? ⟨w.heap.size, 5, none⟩ = some (.int .i64 a0_5) := pw_cell_below hb1 (ps180_); have q6 : w1.cell? ⟨w.heap.size, 6, none⟩ = some (.int .i64 a0_6) := pw_cell_below hb1 (ps180_); have q7 : w1.cell? ⟨w.heap.size, 7, none⟩ = some (.int .i64 a0_7) := pw_cell_below hb1 (ps180_); clear hb1)
  clear LT
  have B1 := Aside0.mk (show Below w.heap.size w w1 by have h1 := HB1.out; rw [HWB.out] at h1; exact below_step HBB.out h1)
  have QQ := Aside0.mk (show Qc w.heap.size w1 [.int .i64 a0_0, .int .i64 a0_1, .slice A0_2 l0_2.length c0_2, .slice A0_3 l0_3.length c0_3, .slice A0_4 l0_4.length c0_4, .int .i64 a0_5, .int .i64 a0_6, .int .i64 a0_7] from ⟨q0, q1, q2, q3, q4, q5, q6, q7⟩)
  go_upto_region 4 with (first
   | (go_at_call 34; refine (shibbolethlaw05_of.calls a0_0 a0_1 A0_2 c0_2 l0_2 A0_3 c0_3 l0_3 A0_4 c0_4 l0_4 a0_5 a0_6 a0_7 _ _ _ _ _ _ _ _ _ (Kd.C_below C2.out B1.out) L2.out (Kd.C_below C3.out B1.out) L3.out (Kd.C_below C4.out B1.out) L4.out (of_f _ _ _ _ _ _ _ _ (by have := HLEN.out; omega) (by have := HLEN.out; omega) (by have := HLEN.out; omega))).mono ?_; rintro e2 w2 ⟨v2, v3, v4, rfl, hv2, hv3, hv4, hb2⟩; obtain ⟨Aa, ca, ea⟩ := Kd.R_slice hv2; obtain ⟨Ab, cb, eb⟩ := Kd.R_slice hv3; obtain ⟨Ac, cc, ec⟩ := Kd.R_slice hv4; subst ea eb ec; have V2 := Aside0.mk hv2; have V3 := Aside0.mk hv3; have V4 := Aside0.mk hv4; have B2 := Aside0.mk (below_step B1.out hb2); have D2 := Aside0.mk hb2; clear hv2 hv3 hv4 hb2)
   | (go_at_call 35; refine (header_Write.calls 3000 a0_0 a0_1 _ Aa ca l0_2 Ab cb l0_3 Ac cc l0_4 a0_5 a0_6 a0_7 (l1.length : Int) rw_ _ (Kd.R_V V2.out) (Kd.R_reads' V3.out).2.2 (Kd.R_reads' V3.out).2.1 (Kd.R_reads' V4.out).2.2 (Kd.R_reads' V4.out).2.1 (TB.below HT.out B2.out) ((write_f _ _ _ _ _ _ _ _ _ 3000 (by omega)).trans (congrArg some HRW.out))).mono ?_; rintro e3 w3 ⟨v5, rfl, hv5, hb3⟩; obtain ⟨Ad, cd, ed⟩ := Kd.R_slice hv5; subst ed; have V5 := Aside0.mk hv5; have B3 := Aside0.mk (below_step B2.out hb3); have D3 := Aside0.mk (below_step D2.out hb3); clear hv5 hb3))
  clear q0 q1 q2 q3 q4 q5 q6 q7
  have AW := fun (W : World) (hb : Below w.heap.size w W) => shibbolethlaw05_awake.calls 3000 true W (TB.below HT.out hb) (awake_f 3000 (by omega))
  by_cases hz : rw_ = []
  ·subst hz
   simp only [List.length_nil]
   go_wp2_with (go_at_call 38; refine (AW _ B3.out).mono ?_; rintro e4 w4 ⟨rfl, hb4⟩; have B4 := Aside0.mk (below_step B3.out hb4); clear hb4)
   go_ret
   exact ⟨rfl, B4.out⟩
  ·have hr : hright a0_0 a0_1 l0_2 l0_3 l0_4 a0_5 a0_6 a0_7 := by
    by_cases hr : hright a0_0 a0_1 l0_2 l0_3 l0_4 a0_5 a0_6 a0_7
    ·exact hr
    ·have h := HRW.out
     rw [if_neg (fun q => hr q.1)] at h
     exact absurd h.symm hz
   have hl1 := HLEN.out.2.2.2.1
   have hl2 := HLEN.out.2.2.2.2
   have hrw2 : hbytes a0_0 a0_1 l0_2 l0_3 l0_4 a0_5 a0_6 a0_7 (l1.length : Int) = rw_ := by
    have h := HRW.out
    rwa [if_pos ⟨hr, by omega, by omega⟩] at h
   have hn200 := hbytes_len a0_0 a0_1 l0_2 l0_3 l0_4 a0_5 a0_6 a0_7 (l1.length : Int) hr
   rw [hrw2] at hn200
   have hpos : 0 < rw_.length := List.length_pos_iff.mpr hz
   have hbt : Bt rw_ := by rw [← hrw2]; exact hbytes_bt hr HB.out.1 HB.out.2.1 HB.out.2.2.1 (by omega)
   have hback := back_all hr l1 l2 hl1 hl2
   rw [hrw2] at hback
   obtain ⟨m1, hm1⟩ : ∃ m, rw_ ++ l1 = m := ⟨_, rfl⟩
   rw [hm1] at hback
   have HM1 := Aside0.mk hm1
   have hm1l : m1.length ≤ 500 := by rw [← hm1, List.length_append]; omega
   clear hm1
   have d0 : ((rw_.length : Int) == 0) = false := by simp; exact hz
   have d1 : decide (rw_ = []) = false := decide_eq_false hz
   have d2 : decide (rw_.length = 0) = false := by simp; exact hz
   have HBACK := Aside0.mk hback
   have HBT := Aside0.mk hbt
   have HN := Aside0.mk hn200
   have C7 := Aside0.mk (Kd.R_reads' V5.out).2.2
   have L7 := Aside0.mk (Kd.R_reads' V5.out).2.1
   have HM1L := Aside0.mk hm1l
   clear hback hbt hn200 hr hrw2 hm1l
   have HL1 := Aside0.mk hl1
   have HL2 := Aside0.mk hl2
   clear hl1 hl2 hpos
   have QC0 := QQ.out.1
   have z0 := pw_cell_below D3.out QC0
   clear QC0
   by_cases hk3 : a0_0 = 3
   ·have k3 : decide (a0_0 = 3) = true := decide_eq_true hk3
    have k3' : (a0_0 != 3) = false := by simp [hk3]
    have hback := HBACK.out
    rw [if_pos hk3, List.append_nil] at hback
    have HBACK2 := Aside0.mk hback
    clear hback HBACK k3 k3'
    subst hk3
    go_upto_region 10 with (first
     | ((with_reducible refine gate_dst (N := 36) rfl ?_); refine Kd.R_lit (Kd.int .u8) w3.heap.size 5 ?hg (N := 36) ?hd (xs := ([] : List Int)) (inner := []) (ok := fun _ => True) (okp := fun _ => True) ?hr ?hp (fun _ hk => hk) trivial (Below.refl _ _) (Nat.le_refl _) (by simp) ?_; (case hd => rfl); (case hg => rfl); (case hr => first | (go_simp; done) | (go_simp; rfl)); (case hp => exact (Reps.none _ _)); intro v6 w6 ho6 hb6 hg_ hnew_; clear hg_ hnew_; have O6 := Aside0.mk ho6; have B6 := Aside0.mk hb6; clear ho6 hb6)
     | ((with_reducible refine gate_builtin (b := .append) (xs := #[.tmp 36, .tmp 37]) rfl ?_); at_builtin; refine Kd.R_append_rows (Kd.int .u8) (w0 := w3) w3.heap.size rfl (.tmp 36) (.tmp 37) 22 5 (.int .u8 0) 1 rfl Tryd.underlying22 Go.Proofs.YtbcleckapamicaaDoor.Hr.info5 rfl (by decide) (by omega) v6 ([] : List Int) rw_ _ _ _ (fun _ => True) (fun _ => False) rfl rfl ?aO ?aR (fun _ _ h => h) (fun _ h => h.elim) ?aF ?aB ?aS ?aL ?_; (case aR => exact Kd.C_below C7.out B6.out); (case aB => exact B6.out); (case aF => exact fun _ _ => trivial); (case aO => exact O6.out); (case aS => exact below_size B6.out); (case aL => have := HN.out; simp; omega); intro v7 w7 ho7 hb7 hg7 hat7; clear hg7 hat7; rw [List.nil_append] at ho7; have O7 := Aside0.mk ho7; have B7 := Aside0.mk hb7; clear ho7 hb7)
     | ((with_reducible refine gate_builtin (b := .append) (xs := #[.tmp 38, .tmp 39]) rfl ?_); at_builtin; refine Kd.R_append_rows (Kd.int .u8) (w0 := w3) w3.heap.size rfl (.tmp 38) (.tmp 39) 22 5 (.int .u8 0) 1 rfl Tryd.underlying22 Go.Proofs.YtbcleckapamicaaDoor.Hr.info5 rfl (by decide) (by omega) v7 rw_ l1 _ _ _ (fun _ => True) (fun _ => False) rfl rfl ?aO ?aR (fun _ _ h => h) (fun _ h => h.elim) ?aF ?aB ?aS ?aL ?_; (case aR => exact Kd.C_below C5.out (below_step B3.out B7.out)); (case aB => exact B7.out); (case aF => exact fun _ _ => trivial); (case aO => exact O7.out); (case aS => exact below_size B7.out); (case aL => have := HN.out; have := HL1.out; omega); intro v8 w8 ho8 hb8 hg8 hat8; clear hg8 hat8; rw [HM1.out] at ho8; have z8 := pw_cell_below hb8 z0; obtain ⟨A8, c8, e8⟩ := Kd.R_slice ho8; subst e8; have O8 := Aside0.mk ho8; have B8 := Aside0.mk hb8; clear ho8 hb8)
     | ((with_reducible refine gate_builtin (b := .append) (xs := #[.tmp 46, .tmp 47]) rfl ?_); at_builtin; refine Kd.R_append_rows (Kd.int .u8) (w0 := w3) w3.heap.size rfl (.tmp 46) (.tmp 47) 22 5 (.int .u8 0) 1 rfl Tryd.underlying22 Go.Proofs.YtbcleckapamicaaDoor.Hr.info5 rfl (by decide) (by omega) _ m1 l2 _ _ _ (fun _ => True) (fun _ => False) rfl rfl ?aO ?aR (fun _ _ h => h) (fun _ h => h.elim) ?aF ?aB ?aS ?aL ?_; (case aR => exact Kd.C_below C6.out (below_step B3.out B8.out)); (case aB => exact B8.out); (case aF => exact fun _ _ => trivial); (case aO => exact O8.out); (case aS => exact below_size B8.out); (case aL => have := HM1L.out; have := HL2.out; omega); intro v9 w9 ho9 hb9 hg9 hat9; clear hg9 hat9; rw [HM2.out] at ho9; have z9 := pw_cell_below hb9 z0; obtain ⟨A9, c9, e9⟩ := Kd.R_slice ho9; subst e9; have O9 := Aside0.mk ho9; have B9 := Aside0.mk hb9; clear ho9 hb9))
    have BW := Aside0.mk (below_step B3.out B8.out)
    have RC := Kd.R_reads' O8.out
    have RG := Aside0.mk (read_good w8 A8 c8 m1 RC.2.2 RC.2.1 (by have := HM1L.out; omega) (by rw [← HM1.out]; exact bt_app HBT.out HB.out.2.2.2.1) (3, a0_1, l0_2, l0_3, l0_4, a0_5, a0_6, a0_7) rw_.length (m1.length : Int) HBACK2.out)
    have DW := Aside0.mk (below_step D3.out B8.out)
    clear RC z0 z8
    go_upto_region 11 with (go_at_call 50; refine RG.out.mono ?_; rintro e10 w10 ⟨v2, v3, v4, rfl, ⟨s1, s2, s3, s4, _, _, _, _, hv2, hv3, hv4⟩, hb10⟩; obtain ⟨Ae, ce, ee⟩ := Kd.R_slice hv2; obtain ⟨Af, cf, ef⟩ := Kd.R_slice hv3; obtain ⟨Ag, cg, eg⟩ := Kd.R_slice hv4; subst ee ef eg; have U2 := Aside0.mk (Kd.R_reads' hv2).2; have U3 := Aside0.mk (Kd.R_reads' hv3).2; have U4 := Aside0.mk (Kd.R_reads' hv4).2; have B10 := Aside0.mk (below_step BW.out hb10); have D10 := Aside0.mk (below_step DW.out hb10); clear hv2 hv3 hv4 hb10)
    obtain ⟨w11, hw11⟩ : ∃ x, w10.alloc (.cells #[.int .i64 3, .int .i64 a0_1, .slice Ae l0_2.length ce, .slice Af l0_3.length cf, .slice Ag l0_4.length cg, .int .i64 a0_5, .int .i64 a0_6, .int .i64 a0_7] 46) = x := ⟨_, rfl⟩
    have x0 : w11.cell? ⟨w10.heap.size, 0, none⟩ = some (.int .i64 3) := by rw [← hw11, World.cell?_alloc_at _ _ _ _ rfl]; rfl
    have x1 : w11.cell? ⟨w10.heap.size, 1, none⟩ = some (.int .i64 a0_1) := by rw [← hw11, World.cell?_alloc_at _ _ _ _ rfl]; rfl
    have x2 : w11.cell? ⟨w10.heap.size, 2, none⟩ = some (.slice Ae l0_2.length ce) := by rw [← hw11, World.cell?_alloc_at _ _ _ _ rfl]; rfl
    have x3 : w11.cell? ⟨w10.heap.size, 3, none⟩ = some (.slice Af l0_3.length cf) := by rw [← hw11, World.cell?_alloc_at _ _ _ _ rfl]; rfl
    have x4 : w11.cell? ⟨w10.heap.size, 4, none⟩ = some (.slice Ag l0_4.length cg) := by rw [← hw11, World.cell?_alloc_at _ _ _ _ rfl]; rfl
    have x5 : w11.cell? ⟨w10.heap.size, 5, none⟩ = some (.int .i64 a0_5) := by rw [← hw11, World.cell?_alloc_at _ _ _ _ rfl]; rfl
    have x6 : w11.cell? ⟨w10.heap.size, 6, none⟩ = some (.int .i64 a0_6) := by rw [← hw11, World.cell?_alloc_at _ _ _ _ rfl]; rfl
    have x7 : w11.cell? ⟨w10.heap.size, 7, none⟩ = some (.int .i64 a0_7) := by rw [← hw11, World.cell?_alloc_at _ _ _ _ rfl]; rfl
    have E11 := Aside0.mk (show Below w10.heap.size w10 w11 by rw [← hw11]; exact below_alloc (Below.refl _ _) _)
    have QF := QQ.out
    have y0 := pw_cell_below (below_step D10.out E11.out) QF.1
    have y1 := pw_cell_below (below_step D10.out E11.out) QF.2.1
    have y2 := pw_cell_below (below_step D10.out E11.out) QF.2.2.1
    have y3 := pw_cell_below (below_step D10.out E11.out) QF.2.2.2.1
    have y4 := pw_cell_below (below_step D10.out E11.out) QF.2.2.2.2.1
    have y5 := pw_cell_below (below_step D10.out E11.out) QF.2.2.2.2.2.1
    have y6 := pw_cell_below (below_step D10.out E11.out) QF.2.2.2.2.2.2.1
    have y7 := pw_cell_below (below_step D10.out E11.out) QF.2.2.2.2.2.2.2
    try simp only [List.getElem?_cons_zero, List.getElem?_cons_succ] at y0 y1 y2 y3 y4 y5 y6 y7
    clear QF
    have B11 := Aside0.mk (below_step B10.out E11.out)
    try simp only [hw11]
    have TD := Aside0.mk (shibbolethlaw05_told.calls 3000 3 a0_1 Ae ce l0_2 Af cf l0_3 Ag cg l0_4 a0_5 a0_6 a0_7 3 a0_1 A0_2 c0_2 l0_2 A0_3 c0_3 l0_3 A0_4 c0_4 l0_4 a0_5 a0_6 a0_7 true w11 (Kd.C_below U2.out.2 E11.out) U2.out.1 (Kd.C_below U3.out.2 E11.out) U3.out.1 (Kd.C_below U4.out.2 E11.out) U4.out.1 (Kd.C_below C2.out B11.out) L2.out (Kd.C_below C3.out B11.out) L3.out (Kd.C_below C4.out B11.out) L4.out (told_f _ _ _ _ _ _ _ _ (by have := HLEN.out; omega) (by have := HLEN.out; omega) (by have := HLEN.out; omega)))
    clear hw11
    go_wp2_with (first
     | (go_at_call 52; refine TD.out.mono ?_; rintro e12 w12 ⟨rfl, hb12⟩; have B12 := Aside0.mk (below_step B11.out hb12); clear hb12)
     | (go_at_call 38; refine (AW _ B12.out).mono ?_; rintro e13 w13 ⟨rfl, hb13⟩; have B13 := Aside0.mk (below_step B12.out hb13); clear hb13))
    go_ret
    exact ⟨rfl, B13.out⟩
   ·have k3 : decide (a0_0 = 3) = false := decide_eq_false hk3
    have k3' : (a0_0 != 3) = true := by simp [hk3]
    obtain ⟨m2, hm2⟩ : ∃ m, m1 ++ l2 = m := ⟨_, rfl⟩
    have HM2L := Aside0.mk (show m2.length ≤ 800 by have := HM1L.out; have := HL2.out; rw [← hm2, List.length_append]; omega)
    have hback := HBACK.out
    rw [if_neg hk3, hm2] at hback
    have HBACK2 := Aside0.mk hback
    have HM2 := Aside0.mk hm2
    clear hm2 hback HBACK
    go_upto_region 10 with (first
     | ((with_reducible refine gate_dst (N := 36) rfl ?_); refine Kd.R_lit (Kd.int .u8) w3.heap.size 5 ?hg (N := 36) ?hd (xs := ([] : List Int)) (inner := []) (ok := fun _ => True) (okp := fun _ => True) ?hr ?hp (fun _ hk => hk) trivial (Below.refl _ _) (Nat.le_refl _) (by simp) ?_; (case hd => rfl); (case hg => rfl); (case hr => first | (go_simp; done) | (go_simp; rfl)); (case hp => exact (Reps.none _ _)); intro v6 w6 ho6 hb6 hg_ hnew_; clear hg_ hnew_; have O6 := Aside0.mk ho6; have B6 := Aside0.mk hb6; clear ho6 hb6)
     | ((with_reducible refine gate_builtin (b := .append) (xs := #[.tmp 36, .tmp 37]) rfl ?_); at_builtin; refine Kd.R_append_rows (Kd.int .u8) (w0 := w3) w3.heap.size rfl (.tmp 36) (.tmp 37) 22 5 (.int .u8 0) 1 rfl Tryd.underlying22 Go.Proofs.YtbcleckapamicaaDoor.Hr.info5 rfl (by decide) (by omega) v6 ([] : List Int) rw_ _ _ _ (fun _ => True) (fun _ => False) rfl rfl ?aO ?aR (fun _ _ h => h) (fun _ h => h.elim) ?aF ?aB ?aS ?aL ?_; (case aR => exact Kd.C_below C7.out B6.out); (case aB => exact B6.out); (case aF => exact fun _ _ => trivial); (case aO => exact O6.out); (case aS => exact below_size B6.out); (case aL => have := HN.out; simp; omega); intro v7 w7 ho7 hb7 hg7 hat7; clear hg7 hat7; rw [List.nil_append] at ho7; have O7 := Aside0.mk ho7; have B7 := Aside0.mk hb7; clear ho7 hb7)
     | ((with_reducible refine gate_builtin (b := .append) (xs := #[.tmp 38, .tmp 39]) rfl ?_); at_builtin; refine Kd.R_append_rows (Kd.int .u8) (w0 := w3) w3.heap.size rfl (.tmp 38) (.tmp 39) 22 5 (.int .u8 0) 1 rfl Tryd.underlying22 Go.Proofs.YtbcleckapamicaaDoor.Hr.info5 rfl (by decide) (by omega) v7 rw_ l1 _ _ _ (fun _ => True) (fun _ => False) rfl rfl ?aO ?aR (fun _ _ h => h) (fun _ h => h.elim) ?aF ?aB ?aS ?aL ?_; (case aR => exact Kd.C_below C5.out (below_step B3.out B7.out)); (case aB => exact B7.out); (case aF => exact fun _ _ => trivial); (case aO => exact O7.out); (case aS => exact below_size B7.out); (case aL => have := HN.out; have := HL1.out; omega); intro v8 w8 ho8 hb8 hg8 hat8; clear hg8 hat8; rw [HM1.out] at ho8; have z8 := pw_cell_below hb8 z0; obtain ⟨A8, c8, e8⟩ := Kd.R_slice ho8; subst e8; have O8 := Aside0.mk ho8; have B8 := Aside0.mk hb8; clear ho8 hb8)
     | ((with_reducible refine gate_builtin (b := .append) (xs := #[.tmp 46, .tmp 47]) rfl ?_); at_builtin; refine Kd.R_append_rows (Kd.int .u8) (w0 := w3) w3.heap.size rfl (.tmp 46) (.tmp 47) 22 5 (.int .u8 0) 1 rfl Tryd.underlying22 Go.Proofs.YtbcleckapamicaaDoor.Hr.info5 rfl (by decide) (by omega) _ m1 l2 _ _ _ (fun _ => True) (fun _ => False) rfl rfl ?aO ?aR (fun _ _ h => h) (fun _ h => h.elim) ?aF ?aB ?aS ?aL ?_; (case aR => exact Kd.C_below C6.out (below_step B3.out B8.out)); (case aB => exact B8.out); (case aF => exact fun _ _ => trivial); (case aO => exact O8.out); (case aS => exact below_size B8.out); (case aL => have := HM1L.out; have := HL2.out; omega); intro v9 w9 ho9 hb9 hg9 hat9; clear hg9 hat9; rw [HM2.out] at ho9; have z9 := pw_cell_below hb9 z0; obtain ⟨A9, c9, e9⟩ := Kd.R_slice ho9; subst e9; have O9 := Aside0.mk ho9; have B9 := Aside0.mk hb9; clear ho9 hb9))
    have BW := Aside0.mk (below_step B3.out B9.out)
    have RC := Kd.R_reads' O9.out
    have RG := Aside0.mk (read_good w9 A9 c9 m2 RC.2.2 RC.2.1 (by have := HM2L.out; omega) (by rw [← HM2.out, ← HM1.out]; exact bt_app (bt_app HBT.out HB.out.2.2.2.1) HB.out.2.2.2.2) (a0_0, a0_1, l0_2, l0_3, l0_4, a0_5, a0_6, a0_7) rw_.length (m1.length : Int) HBACK2.out)
    have DW := Aside0.mk (below_step D3.out B9.out)
    clear RC z0 z8 z9
    go_upto_region 11 with (go_at_call 50; refine RG.out.mono ?_; rintro e10 w10 ⟨v2, v3, v4, rfl, ⟨s1, s2, s3, s4, _, _, _, _, hv2, hv3, hv4⟩, hb10⟩; obtain ⟨Ae, ce, ee⟩ := Kd.R_slice hv2; obtain ⟨Af, cf, ef⟩ := Kd.R_slice hv3; obtain ⟨Ag, cg, eg⟩ := Kd.R_slice hv4; subst ee ef eg; have U2 := Aside0.mk (Kd.R_reads' hv2).2; have U3 := Aside0.mk (Kd.R_reads' hv3).2; have U4 := Aside0.mk (Kd.R_reads' hv4).2; have B10 := Aside0.mk (below_step BW.out hb10); have D10 := Aside0.mk (below_step DW.out hb10); clear hv2 hv3 hv4 hb10)
    obtain ⟨w11, hw11⟩ : ∃ x, w10.alloc (.cells #[.int .i64 a0_0, .int .i64 a0_1, .slice Ae l0_2.length ce, .slice Af l0_3.length cf, .slice Ag l0_4.length cg, .int .i64 a0_5, .int .i64 a0_6, .int .i64 a0_7] 46) = x := ⟨_, rfl⟩
    have x0 : w11.cell? ⟨w10.heap.size, 0, none⟩ = some (.int .i64 a0_0) := by rw [← hw11, World.cell?_alloc_at _ _ _ _ rfl]; rfl
    have x1 : w11.cell? ⟨w10.heap.size, 1, none⟩ = some (.int .i64 a0_1) := by rw [← hw11, World.cell?_alloc_at _ _ _ _ rfl]; rfl
    have x2 : w11.cell? ⟨w10.heap.size, 2, none⟩ = some (.slice Ae l0_2.length ce) := by rw [← hw11, World.cell?_alloc_at _ _ _ _ rfl]; rfl
    have x3 : w11.cell? ⟨w10.heap.size, 3, none⟩ = some (.slice Af l0_3.length cf) := by rw [← hw11, World.cell?_alloc_at _ _ _ _ rfl]; rfl
    have x4 : w11.cell? ⟨w10.heap.size, 4, none⟩ = some (.slice Ag l0_4.length cg) := by rw [← hw11, World.cell?_alloc_at _ _ _ _ rfl]; rfl
    have x5 : w11.cell? ⟨w10.heap.size, 5, none⟩ = some (.int .i64 a0_5) := by rw [← hw11, World.cell?_alloc_at _ _ _ _ rfl]; rfl
    have x6 : w11.cell? ⟨w10.heap.size, 6, none⟩ = some (.int .i64 a0_6) := by rw [← hw11, World.cell?_alloc_at _ _ _ _ rfl]; rfl
    have x7 : w11.cell? ⟨w10.heap.size, 7, none⟩ = some (.int .i64 a0_7) := by rw [← hw11, World.cell?_alloc_at _ _ _ _ rfl]; rfl
    have E11 := Aside0.mk (show Below w10.heap.size w10 w11 by rw [← hw11]; exact below_alloc (Below.refl _ _) _)
    have QF := QQ.out
    have y0 := pw_cell_below (below_step D10.out E11.out) QF.1
    have y1 := pw_cell_below (below_step D10.out E11.out) QF.2.1
    have y2 := pw_cell_below (below_step D10.out E11.out) QF.2.2.1
    have y3 := pw_cell_below (below_step D10.out E11.out) QF.2.2.2.1
    have y4 := pw_cell_below (below_step D10.out E11.out) QF.2.2.2.2.1
    have y5 := pw_cell_below (below_step D10.out E11.out) QF.2.2.2.2.2.1
    have y6 := pw_cell_below (below_step D10.out E11.out) QF.2.2.2.2.2.2.1
    have y7 := pw_cell_below (below_step D10.out E11.out) QF.2.2.2.2.2.2.2
    try simp only [List.getElem?_cons_zero, List.getElem?_cons_succ] at y0 y1 y2 y3 y4 y5 y6 y7
    clear QF
    have B11 := Aside0.mk (below_step B10.out E11.out)
    try simp only [hw11]
    have TD := Aside0.mk (shibbolethlaw05_told.calls 3000 a0_0 a0_1 Ae ce l0_2 Af cf l0_3 Ag cg l0_4 a0_5 a0_6 a0_7 a0_0 a0_1 A0_2 c0_2 l0_2 A0_3 c0_3 l0_3 A0_4 c0_4 l0_4 a0_5 a0_6 a0_7 true w11 (Kd.C_below U2.out.2 E11.out) U2.out.1 (Kd.C_below U3.out.2 E11.out) U3.out.1 (Kd.C_below U4.out.2 E11.out) U4.out.1 (Kd.C_below C2.out B11.out) L2.out (Kd.C_below C3.out B11.out) L3.out (Kd.C_below C4.out B11.out) L4.out (told_f _ _ _ _ _ _ _ _ (by have := HLEN.out; omega) (by have := HLEN.out; omega) (by have := HLEN.out; omega)))
    clear hw11
    go_wp2_with (first
     | (go_at_call 52; refine TD.out.mono ?_; rintro e12 w12 ⟨rfl, hb12⟩; have B12 := Aside0.mk (below_step B11.out hb12); clear hb12)
     | (go_at_call 38; refine (AW _ B12.out).mono ?_; rintro e13 w13 ⟨rfl, hb13⟩; have B13 := Aside0.mk (below_step B12.out hb13); clear hb13))
    go_ret
    exact ⟨rfl, B13.out⟩
end Go.Proofs.YtbcleckapamicaaDoor.QHb
namespace Go.Proofs.YtbcleckapamicaaDoor.Opn
open Go.RowKit Go.Proofs.YtbcleckapamicaaDoorW.PrintWords
set_option linter.unusedVariables false
variable {P : Program}
def Opens (P : Program) (t : TypeId) {α : Type} (d : Kd α) (ok : α → Prop) : Prop :=
  ∀ (H : Type) (enc : TypeId × Value → H) (w : World) (base : Nat) (spare : Nat → Bool) (held : Bool) (fuel : Nat) (cs : List Value) (x : DataW H × List MemPlace),
    DataW.trod enc P w base spare held fuel t cs = some x → ∃ a, d.K w a cs ∧ ok a
theorem Opens.int {t : TypeId} {k : IntKind} (ht : P.underlying t = some (.int k)) : Opens P t (Kd.int k) (fun n => (Lit.int k n).wf = true) := by
  intro H enc w base spare held fuel cs x h
  obtain ⟨n, rfl, _, hw⟩ := DataW.trod_int ht h
  exact ⟨n, rfl, hw⟩
theorem Opens.bool {t : TypeId} (ht : P.underlying t = some .bool) : Opens P t Kd.bool (fun _ => True) := by
  intro H enc w base spare held fuel cs x h
  obtain ⟨b, rfl, _⟩ := DataW.trod_bool ht h
  exact ⟨b, rfl, trivial⟩
theorem Opens.slice {t e : TypeId} {α : Type} {d : Kd α} {ok : α → Prop} (ht : P.underlying t = some (.slice e)) (hs : P.cellsOf e = d.sz) (he : Opens P e d ok) :
    Opens P t (Kd.slice e d) (fun xs => xs.length ≤ 9223372036854775807 ∧ ∀ x ∈ xs, ok x) := by
  classical
  intro H enc w base spare held fuel cs x h
  rcases Go.Deep.open_slice ht h with ⟨rfl, _⟩ | ⟨a, len, cap, m, n, D, Pl, rfl, hb, hl, hm, hmm, _, hx⟩
  · exact ⟨[], ⟨none, 0, rfl, by simp, Kd.C_nil d w⟩, by simp, by simp⟩
  · have hlm : len ≤ m := by rw [hmm]; split <;> omega
    have hex : ∀ i, i < len → ∃ p : α, (∃ c, c.length = d.sz ∧ d.K w p c ∧ ∀ j u, c[j]? = some u → w.cell? (a.add (i * d.sz + j)) = some u) ∧ ok p := by
      intro i hi
      obtain ⟨c, hc1, hc2⟩ := hx i (by omega)
      obtain ⟨_, hlen, hcell⟩ := World.cells?_some hc1
      obtain ⟨p, hK, ho⟩ := he H enc w base spare held n c _ hc2
      rw [hs] at hlen hcell
      refine ⟨p, ⟨c, hlen, hK, fun j u hj => ?_⟩, ho⟩
      have hjl : j < d.sz := by
        rcases Nat.lt_or_ge j c.length with h1 | h1
        · omega
        · rw [List.getElem?_eq_none h1] at hj; cases hj
      have := hcell j hjl
      rw [Addr.add_add] at this
      rw [this, hj]
    have hmax : len ≤ 9223372036854775807 := by have := hm; simp only [maxLen] at this; omega
    have hL : ∃ l : List α, l.length = len ∧ ∀ (i : Nat) (p : α), l[i]? = some p → (∃ c, c.length = d.sz ∧ d.K w p c ∧ ∀ j u, c[j]? = some u → w.cell? (a.add (i * d.sz + j)) = some u) ∧ ok p := by
      refine ⟨List.ofFn (fun i : Fin len => Classical.choose (hex i.1 i.2)), by simp, fun i p hp => ?_⟩
      rw [List.getElem?_ofFn] at hp
      split at hp
      · rename_i hi
        obtain rfl := Option.some.inj hp
        exact Classical.choose_spec (hex i hi)
      · cases hp
    obtain ⟨l, hlen, hall⟩ := hL
    refine ⟨l, ⟨some a, cap, by rw [hlen], by omega, hlen ▸ rfl, by omega, fun _ => ⟨a, rfl, fun j p hp => (hall j p hp).1⟩⟩, by omega, fun p hp => ?_⟩
    obtain ⟨i, hi, rfl⟩ := List.mem_iff_getElem.1 hp
    exact (hall i _ (List.getElem?_eq_getElem hi)).2
def OpensF (P : Program) (fs : List Field) (off : Nat) {α : Type} (d : Kd α) (ok : α → Prop) : Prop :=
  ∀ (H : Type) (enc : TypeId × Value → H) (w : World) (base : Nat) (spare : Nat → Bool) (held : Bool) (n : Nat) (cs : List Value), cs.length = off + d.sz →
    (∀ f, f ∈ fs → ∃ y, DataW.trod enc P w base spare held n f.type ((cs.drop f.offset).take (P.cellsOf f.type)) = some y) → ∃ a, d.K w a (cs.drop off) ∧ ok a
theorem OpensF.last {f : Field} {off : Nat} {α : Type} {d : Kd α} {ok : α → Prop} (ho : f.offset = off) (hc : P.cellsOf f.type = d.sz) (h : Opens P f.type d ok) : OpensF P [f] off d ok := by
  intro H enc w base spare held n cs hl hf
  obtain ⟨y, hy⟩ := hf f (List.mem_singleton.2 rfl)
  rw [ho, hc, List.take_of_length_le (by simp; omega)] at hy
  exact h H enc w base spare held n _ _ hy
theorem OpensF.cons {f : Field} {fs : List Field} {off : Nat} {α β : Type} {d : Kd α} {d' : Kd β} {ok : α → Prop} {ok' : β → Prop} (ho : f.offset = off) (hc : P.cellsOf f.type = d.sz) (h : Opens P f.type d ok) (h' : OpensF P fs (off + d.sz) d' ok') :
    OpensF P (f :: fs) off (Kd.pair d d') (fun p => ok p.1 ∧ ok' p.2) := by
  intro H enc w base spare held n cs hl hf
  have hl' : cs.length = off + (d.sz + d'.sz) := hl
  obtain ⟨y, hy⟩ := hf f (List.mem_cons_self ..)
  rw [ho, hc] at hy
  obtain ⟨a, hK, hok⟩ := h H enc w base spare held n _ _ hy
  obtain ⟨b, hK', hok'⟩ := h' H enc w base spare held n cs (by omega) (fun g hg => hf g (List.mem_cons_of_mem _ hg))
  refine ⟨(a, b), ⟨_, _, ?_, hK, hK'⟩, hok, hok'⟩
  rw [← List.drop_drop, List.take_append_drop]
theorem Opens.struct {t : TypeId} {fs : Array Field} {α : Type} {d : Kd α} {ok : α → Prop} (ht : P.underlying t = some (.struct fs)) (hs : P.cellsOf t = d.sz) (h : OpensF P fs.toList 0 d ok) : Opens P t d ok := by
  intro H enc w base spare held fuel cs x hx
  obtain ⟨xs, n, _, _, hl, hlen, hf⟩ := DataW.trod_struct ht hx
  have := h H enc w base spare held n cs (by rw [hl, hs]; omega) (fun f hm => ?_)
  · rwa [List.drop_zero] at this
  · obtain ⟨i, hi, rfl⟩ := List.mem_iff_getElem.1 hm
    have hi' : i < fs.size := by simpa using hi
    have := hf i fs[i] (by simp [hi'])
    refine ⟨xs[i]'(by omega), ?_⟩
    rw [List.getElem?_eq_getElem (show i < xs.length by omega)] at this
    simpa using this
theorem Opens.value {t : TypeId} {α : Type} {d : Kd α} {ok : α → Prop} (h : Opens P t d ok) {H : Type} {enc : TypeId × Value → H} {w : World} {base : Nat} {spare : Nat → Bool} {held : Bool} {v : Value} {x : DataW H} {ps : List MemPlace} (hv : DataW.Trod enc P w base spare held t v x ps) :
    ∃ a, d.K w a v.cells.toList ∧ ok a := by
  obtain ⟨fuel, hf⟩ := hv
  exact h H enc w base spare held fuel _ _ hf
theorem Opens.sliceValue {t e : TypeId} {α : Type} {d : Kd α} {ok : List α → Prop} (h : Opens P t (Kd.slice e d) ok) {H : Type} {enc : TypeId × Value → H} {w : World} {base : Nat} {spare : Nat → Bool} {held : Bool} {a : Option Addr} {len cap : Nat} {x : DataW H} {ps : List MemPlace} (hv : DataW.Trod enc P w base spare held t (.slice a len cap) x ps) :
    ∃ l : List α, len = l.length ∧ l.length ≤ cap ∧ d.C w a l.length l ∧ ok l := by
  obtain ⟨l, ⟨A, c, hcs, hl, hC⟩, ho⟩ := h.value hv
  simp [Value.cells] at hcs
  obtain ⟨rfl, rfl, rfl⟩ := hcs
  exact ⟨l, rfl, hl, hC, ho⟩
theorem Opens.aggValue {t : TypeId} {fs : Array Field} {α : Type} {d : Kd α} {ok : α → Prop} (h : Opens P t d ok) (ht : P.underlying t = some (.struct fs)) {H : Type} {enc : TypeId × Value → H} {w : World} {base base' : Nat} {spare : Nat → Bool} {held : Bool} {r : Reach} {v : Value} {x : DataW H} {ps : List MemPlace}
    (ho : Value.okWide P w r base' t v) (hv : DataW.Trod enc P w base spare held t v x ps) : ∃ cs a, v = .agg cs ∧ d.K w a cs.toList ∧ ok a := by
  obtain ⟨cs, rfl, _⟩ := Go.WideShapes.okWide_struct ht ho
  obtain ⟨a, hK, hok⟩ := h.value hv
  exact ⟨cs, a, rfl, hK, hok⟩
end Go.Proofs.YtbcleckapamicaaDoor.Opn
namespace Go.Proofs.YtbcleckapamicaaDoor.headerBackPrm
open Go.RowKit Go.Proofs.YtbcleckapamicaaDoorW.PrintWords Go.Proofs.YtbcleckapamicaaDoor.QHb Go.Proofs.YtbcleckapamicaaDoor.Opn
set_option linter.unusedVariables false
def ok3 : Int → Prop := fun n => (Lit.int .i64 n).wf = true
theorem opens_ok3 : Opens Tryd.prog 3 (Kd.int .i64) ok3 := Opens.int Tryd.underlying3
def ok5 : Int → Prop := fun n => (Lit.int .u8 n).wf = true
theorem opens_ok5 : Opens Tryd.prog 5 (Kd.int .u8) ok5 := Opens.int Tryd.underlying5
def ok22 : List (Int) → Prop := fun xs => xs.length ≤ 9223372036854775807 ∧ ∀ x ∈ xs, ok5 x
theorem opens_ok22 : Opens Tryd.prog 22 (Kd.slice 5 (Kd.int .u8)) ok22 := Opens.slice Tryd.underlying22 (by kernel_rfl) opens_ok5
def okT44 : ((Int) × (Int) × (List (Int)) × (List (Int)) × (List (Int)) × (Int) × (Int) × (Int)) → Prop := fun x => ok3 x.1 ∧ ok3 x.2.1 ∧ ok22 x.2.2.1 ∧ ok22 x.2.2.2.1 ∧ ok22 x.2.2.2.2.1 ∧ ok3 x.2.2.2.2.2.1 ∧ ok3 x.2.2.2.2.2.2.1 ∧ ok3 x.2.2.2.2.2.2.2
theorem opens_okT44 : Opens Tryd.prog 44 (Kd.pair (Kd.int .i64) (Kd.pair (Kd.int .i64) (Kd.pair (Kd.slice 5 (Kd.int .u8)) (Kd.pair (Kd.slice 5 (Kd.int .u8)) (Kd.pair (Kd.slice 5 (Kd.int .u8)) (Kd.pair (Kd.int .i64) (Kd.pair (Kd.int .i64) (Kd.int .i64)))))))) okT44 := Opens.struct Tryd.underlying44 (by kernel_rfl) (OpensF.cons rfl (by kernel_rfl) opens_ok3 (OpensF.cons rfl (by kernel_rfl) opens_ok3 (OpensF.cons rfl (by kernel_rfl) opens_ok22 (OpensF.cons rfl (by kernel_rfl) opens_ok22 (OpensF.cons rfl (by kernel_rfl) opens_ok22 (OpensF.cons rfl (by kernel_rfl) opens_ok3 (OpensF.cons rfl (by kernel_rfl) opens_ok3 (OpensF.last rfl (by kernel_rfl) opens_ok3))))))))
def Pure : Prop := ∀ (x0 : (Int) × (Int) × (List (Int)) × (List (Int)) × (List (Int)) × (Int) × (Int) × (Int)) (x1 : List (Int)) (x2 : List (Int)), okT44 x0 → ok22 x1 → ok22 x2 → shibbolethlaw05_HeaderBack.f (x0.1) (x0.2.1) (x0.2.2.1) (x0.2.2.2.1) (x0.2.2.2.2.1) (x0.2.2.2.2.2.1) (x0.2.2.2.2.2.2.1) (x0.2.2.2.2.2.2.2) x1 x2 = some true
end Go.Proofs.YtbcleckapamicaaDoor.headerBackPrm
namespace Go.Proofs.YtbcleckapamicaaDoor.Pure
open Go Go.RowKit Go.Proofs.YtbcleckapamicaaDoor.QHb Go.Proofs.YtbcleckapamicaaDoor.QHc Go.Proofs.YtbcleckapamicaaDoorW.PrintWords
set_option linter.unusedVariables false
theorem u8b {x : Int} (h : (Lit.int .u8 x).wf = true) : 0 ≤ x ∧ x ≤ 255 := by
  simp [Lit.wf, IntKind.min, IntKind.max, IntKind.signed, IntKind.bits] at h
  omega
theorem HeaderBack : headerBackPrm.Pure := by
  rintro ⟨a0, a1, l2, l3, l4, a5, a6, a7⟩ b b2 ⟨_, _, h2, h3, h4, _⟩ hn hm
  unfold shibbolethlaw05_HeaderBack.f
  exact if_pos ⟨fun x hx => u8b (h2.2 x hx), fun x hx => u8b (h3.2 x hx), fun x hx => u8b (h4.2 x hx), fun x hx => u8b (hn.2 x hx), fun x hx => u8b (hm.2 x hx)⟩
end Go.Proofs.YtbcleckapamicaaDoor.Pure
namespace Go.Proofs.YtbcleckapamicaaDoor.Tab
open Go.RowKit Go.Proofs.YtbcleckapamicaaDoor.Gv
set_option linter.unusedVariables false
def laid {H : Type} : List (String × DataW H) := [((Rows.headerBackRow.named).getD 0 default, Rows.laid_math_bits_deBruijn32tab), ((Rows.headerBackRow.named).getD 1 default, Rows.laid_math_bits_deBruijn64tab)]
theorem g64 : Tryd.prog.globalNamed ((Rows.headerBackRow.named).getD 1 default) = some 1 := by kernel_rfl
theorem ty64 : (Tryd.prog.globals[1]?).map (·.type) = some 146 := by kernel_rfl
theorem of_laid {W : World} (h : laidMet Tryd.prog laid W) : TB W := by
  have h2 : laidMet Tryd.prog [((Rows.headerBackRow.named).getD 1 default, Lib.tabData .u8 tab64)] W := h.tail
  have ht : Lib.TabIs Tryd.prog W ((Rows.headerBackRow.named).getD 1 default) .u8 tab64 := Lib.tabIs_of_head g64 ty64 Tryd.underlying146 Tryd.underlying5 (by kernel_rfl) (by kernel_rfl) h2
  exact ⟨fun i hi => ht.cell g64 i hi⟩
def tab32 : List Int := [0, 1, 28, 2, 29, 14, 24, 3, 30, 22, 20, 15, 25, 17, 4, 8, 31, 27, 13, 23, 21, 19, 16, 7, 26, 12, 18, 6, 11, 5, 10, 9]
noncomputable def laidWorld (os : Os) : World :=
  let w0 := World.holding Tryd.prog os ⟨#[], #[], []⟩
  { w0 with heap := (w0.heap.modify 0 fun
      | .cells _ t frozen => .cells (tab32.map fun z => Value.int .u8 z).toArray t frozen
      | o => o).modify 1 fun
      | .cells _ t frozen => .cells (tab64.map fun z => Value.int .u8 z).toArray t frozen
      | o => o }
set_option maxRecDepth 100000 in
theorem laidWorld_met (os : Os) (args : Array Value) : laidMet Tryd.prog laid ((laidWorld os).forCall (fun _ _ => 0) ⟨#[], args, []⟩).memory :=
  laidMet_of_run' 8 (by kernel_rfl) (by kernel_rfl)
end Go.Proofs.YtbcleckapamicaaDoor.Tab
