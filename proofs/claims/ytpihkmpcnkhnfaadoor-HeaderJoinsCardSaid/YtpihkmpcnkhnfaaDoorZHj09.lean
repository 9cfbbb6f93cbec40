/- A part of the proof of the law HeaderJoins: QHjx0. -/
import Derived.Test.YtpihkmpcnkhnfaaDoorZHj08
import Derived.Test.YtpihkmpcnkhnfaaDoorZHj07
namespace Go.Proofs.YtpihkmpcnkhnfaaDoor.QHj
open Go Go.RowKit Go.Proofs.YtpihkmpcnkhnfaaDoorW.PrintWords Go.Proofs.YtpihkmpcnkhnfaaDoorW.PrintLast Go.Proofs.YtpihkmpcnkhnfaaDoorW.PrintMore Go.Proofs.YtpihkmpcnkhnfaaDoor.QHe Go.Proofs.YtpihkmpcnkhnfaaDoor.HeP Go.Proofs.YtpihkmpcnkhnfaaDoor.HrP Go.Proofs.YtpihkmpcnkhnfaaDoor.QHc
open Go.Proofs.YtpihkmpcnkhnfaaDoor.Gv (TB TB.below TB.alloc TB.drew)
open Go.Proofs.YtpihkmpcnkhnfaaDoor.Hr (hread)
open Go.Proofs.YtpihkmpcnkhnfaaDoor.HsP (pks)
open Go.Proofs.YtpihkmpcnkhnfaaDoor.Hsi (Pk split_calls)
open Go.Proofs.YtpihkmpcnkhnfaaDoor.QHs (pk_at told_f pks_nil)
attribute [local go_sem] max2_int min2_int max_two min_two max_three min_three max_four min_four
set_option linter.unusedVariables false
set_option linter.unusedSimpArgs false
set_option hygiene false
local macro "pl110_" : term => `((by first | (simp only [putAll, Act.put, List.setIfInBounds_toArray, List.set_cons_zero, List.set_cons_succ]; done) | (simp only [putAll, Act.put, List.setIfInBounds_toArray, List.set_cons_zero, List.set_cons_succ]; rfl)))
local macro "ll110_" : tactic => `(tactic| (refine box_step ?hg (N := 3) ?hd (cs := #[.int .i64 0, .int .i64 0, .slice none 0 0, .slice none 0 0, .slice none 0 0, .int .i64 0, .int .i64 0, .int .i64 0]) (t := 28) ?hr ?_; (case hd => rfl); (case hg => rfl); (case hr => first | (go_simp; done) | (go_simp; rfl))))
local macro "ll111_" : tactic => `(tactic| (have hH0 := (hb0.block gb (Array.getElem?_eq_some_iff.1 hHeld).1).trans hHeld))
local macro "ll112_" : tactic => `(tactic| (refine box_step ?hg (N := 4) ?hd (cs := #[.int .i64 0, .int .i64 0, .slice none 0 0, .slice none 0 0, .slice none 0 0, .int .i64 0, .int .i64 0, .int .i64 0]) (t := 28) ?hr ?_; (case hd => rfl); (case hg => rfl); (case hr => first | (go_simp; done) | (go_simp; rfl))))
local macro "ll113_" : tactic => `(tactic| (have hlt1 := (Array.getElem?_eq_some_iff.1 hx1).1))
local macro "ll114_" : tactic => `(tactic| (have hH1 := (hb1.block gb (Array.getElem?_eq_some_iff.1 hHeld).1).trans hHeld))
local macro "ll115_" : tactic => `(tactic| (refine one_ (i := 10) (N := some 5) #[true, true, true, true, true, true, true, true, true, true, true, false, false, false, false] rfl rfl (one_of HT_.out (by kernel_rfl)) (by decide) (fun K hK => ?_)))
local macro "ll116_" : tactic => `(tactic| (refine box_step ?hg (N := 5) ?hd (cs := #[.int .i64 0, .int .i64 0, .slice none 0 0, .slice none 0 0, .slice none 0 0, .int .i64 0, .int .i64 0, .int .i64 0]) (t := 28) ?hr ?_; (case hd => rfl); (case hg => rfl); (case hr => first | (go_simp; done) | (go_simp; rfl))))
local macro "ll117_" : tactic => `(tactic| (have hlt2 := (Array.getElem?_eq_some_iff.1 hx2).1))
local macro "ll118_" : tactic => `(tactic| (have hH2 := (hb2.block gb (Array.getElem?_eq_some_iff.1 hHeld).1).trans hHeld))
local macro "ll119_" : tactic => `(tactic| (refine one_ (i := 9) (N := some 4) #[true, true, true, true, true, true, true, true, true, true, true, false, false, false, false] rfl rfl (one_of HT_.out (by kernel_rfl)) (by decide) (fun K hK => ?_)))
local macro "ll1110_" : tactic => `(tactic| (refine one_ (i := 8) (N := some 3) #[true, true, true, true, true, true, true, true, true, true, true, false, false, false, false] rfl rfl (one_of HT_.out (by kernel_rfl)) (by decide) (fun K hK => ?_)))
set_option hygiene true
theorem bt_app {a b : List Int} (ha : Bt a) (hb : Bt b) : Bt (a ++ b) := fun x hx => (List.mem_append.1 hx).elim (ha x) (hb x)
theorem wrote {a0 a1 : Int} {l2 l3 l4 : List Int} {a5 a6 a7 n : Int} {x : List Int} (h : (if hright a0 a1 l2 l3 l4 a5 a6 a7 ∧ (0 : Int) ≤ n ∧ n ≤ 16384 then hbytes a0 a1 l2 l3 l4 a5 a6 a7 n else []) = x) (hz : x ≠ []) :
  hright a0 a1 l2 l3 l4 a5 a6 a7 ∧ hbytes a0 a1 l2 l3 l4 a5 a6 a7 n = x := by
 by_cases hr : hright a0 a1 l2 l3 l4 a5 a6 a7 ∧ (0 : Int) ≤ n ∧ n ≤ 16384
 ·rw [if_pos hr] at h; exact ⟨hr.1, h⟩
 ·rw [if_neg hr] at h; exact absurd h.symm hz
theorem back_long {a0 a1 : Int} {l2 l3 l4 : List Int} {a5 a6 a7 : Int} (h : hright a0 a1 l2 l3 l4 a5 a6 a7) (h3 : a0 ≠ 3) (body rest : List Int) (hl : body.length + rest.length ≤ 10000) :
  hread (hbytes a0 a1 l2 l3 l4 a5 a6 a7 (body.length : Int) ++ body ++ rest) = .ok ((a0, a1, l2, l3, l4, a5, a6, a7), (hbytes a0 a1 l2 l3 l4 a5 a6 a7 (body.length : Int)).length, ((hbytes a0 a1 l2 l3 l4 a5 a6 a7 (body.length : Int) ++ body).length : Int)) := by
 unfold hright at h
 obtain ⟨h7, h7', h6, h6', (⟨rfl, rfl, h2, h3', h4, h5⟩ | ⟨h0, h3', h1, h1', h2, h3'', h5, h4, h40⟩)⟩ := h
 ·exact absurd rfl h3
 ·obtain rfl := h5
  rw [hbytes_long _ _ _ _ _ _ _ _ _ h3, List.append_assoc]
  have := read_long a0 a1 a6 a7 (body.length : Int) l2 l3 l4 (body ++ rest) h0 h3' h7 h7' h6 h6' h1 h1' h2 h3'' h4 h40 (by omega) (by rw [List.length_append]; omega) (by rw [List.length_append]; omega)
  rw [this, List.length_append]
  simp
theorem back_last {a0 a1 : Int} {l2 l3 l4 : List Int} {a5 a6 a7 : Int} (h : hright a0 a1 l2 l3 l4 a5 a6 a7) (body : List Int) (hl : body.length ≤ 10000) :
  hread (hbytes a0 a1 l2 l3 l4 a5 a6 a7 (body.length : Int) ++ body) = .ok ((a0, a1, l2, l3, l4, a5, a6, a7), (hbytes a0 a1 l2 l3 l4 a5 a6 a7 (body.length : Int)).length, ((hbytes a0 a1 l2 l3 l4 a5 a6 a7 (body.length : Int) ++ body).length : Int)) := by
 by_cases h3 : a0 = 3
 ·unfold hright at h
  obtain ⟨h7, h7', h6, h6', (⟨rfl, rfl, h2, h3', h4, h5⟩ | ⟨h0, h3', _⟩)⟩ := h
  ·obtain rfl := List.eq_nil_of_length_eq_zero h3'
   obtain rfl := List.eq_nil_of_length_eq_zero h4
   have e : hbytes 3 0 l2 [] [] a5 a6 a7 (body.length : Int) = [63 + 4 * a5 + a7] ++ l2 ++ hbig a6 a7 := if_pos rfl
   rw [e]
   exact read_short a5 a6 a7 l2 body h7 h7' h6 h6' h2 h5
  ·omega
 ·have := back_long h h3 body [] (by simpa using hl)
  rwa [List.append_nil] at this
theorem pks_step (f : Nat) (p q rest : List Int) (fl : Hr.Flds) (hp : p ≠ []) (h : hread (p ++ q ++ rest) = .ok (fl, p.length, ((p ++ q).length : Int))) : pks (f + 1) (p ++ q ++ rest) = ((fl, p, q) :: (pks f rest).1, (pks f rest).2) := by
 have hne : p ++ q ++ rest ≠ [] := by cases p with
  | nil => exact absurd rfl hp
  | cons a p => simp
 have e1 : (p ++ q ++ rest).take p.length = p := by rw [List.append_assoc, List.take_left]
 have e2 : ((p ++ q ++ rest).take (p ++ q).length).drop p.length = q := by rw [List.take_left, List.drop_left]
 have e3 : (p ++ q ++ rest).drop (p ++ q).length = rest := List.drop_left
 rw [QHs.pks_good hne h, Int.toNat_natCast, e1, e2, e3]
theorem pks_join {a0 a1 a5 a6 a7 b0 b1 b5 b6 b7 d0 d1 d5 d6 d7 : Int} {a2 a3 a4 b2 b3 b4 d2 d3 d4 x y z body : List Int} (ha : hright a0 a1 a2 a3 a4 a5 a6 a7 ∧ hbytes a0 a1 a2 a3 a4 a5 a6 a7 (body.length : Int) = x) (hb : hright b0 b1 b2 b3 b4 b5 b6 b7 ∧ hbytes b0 b1 b2 b3 b4 b5 b6 b7 (0 : Int) = y) (hd : hright d0 d1 d2 d3 d4 d5 d6 d7 ∧ hbytes d0 d1 d2 d3 d4 d5 d6 d7 (body.length : Int) = z)
  (ha3 : a0 ≠ 3) (hb3 : b0 ≠ 3) (hl : body.length ≤ 300) (hx : x.length ≤ 200) (hy : y.length ≤ 200) (hz : z.length ≤ 200) (nx : x ≠ []) (ny : y ≠ []) (nz : z ≠ []) (f : Nat) (hf : 3 < f) :
  pks f (x ++ body ++ y ++ z ++ body) = ([(((a0, a1, a2, a3, a4, a5, a6, a7), x, body) : Pk), ((b0, b1, b2, b3, b4, b5, b6, b7), y, []), ((d0, d1, d2, d3, d4, d5, d6, d7), z, body)], 0) := by
 obtain ⟨f, rfl⟩ : ∃ g, f = g + 1 + 1 + 1 := ⟨f - 3, by omega⟩
 have e1 : x ++ body ++ y ++ z ++ body = x ++ body ++ (y ++ [] ++ (z ++ body ++ [])) := by simp
 have r1 := back_long ha.1 ha3 body (y ++ [] ++ (z ++ body ++ [])) (by simp; omega)
 rw [ha.2] at r1
 have r2 := back_long hb.1 hb3 [] (z ++ body ++ []) (by simp; omega)
 rw [show (([] : List Int).length : Int) = 0 from rfl, hb.2] at r2
 have r3 := back_last hd.1 body (by omega)
 rw [hd.2] at r3
 rw [e1, pks_step _ x body _ _ nx r1, pks_step _ y [] _ _ ny r2, pks_step _ z body [] _ nz (by rw [List.append_nil]; exact r3), pks_nil]
theorem store8 {W : World} {g t : Nat} {z0 z1 z2 z3 z4 z5 z6 z7 : Value} (h : W.heap[g]? = some (.cells #[z0, z1, z2, z3, z4, z5, z6, z7] t (0, 0))) (v0 v1 v2 v3 v4 v5 v6 v7 : Value) :
  ((((((((W.setCell ⟨g, 0, none⟩ v0).setCell ⟨g, 1, none⟩ v1).setCell ⟨g, 2, none⟩ v2).setCell ⟨g, 3, none⟩ v3).setCell ⟨g, 4, none⟩ v4).setCell ⟨g, 5, none⟩ v5).setCell ⟨g, 6, none⟩ v6).setCell ⟨g, 7, none⟩ v7).heap[g]? = some (.cells #[v0, v1, v2, v3, v4, v5, v6, v7] t (0, 0)) ∧
  (∀ k, k ≠ g → ((((((((W.setCell ⟨g, 0, none⟩ v0).setCell ⟨g, 1, none⟩ v1).setCell ⟨g, 2, none⟩ v2).setCell ⟨g, 3, none⟩ v3).setCell ⟨g, 4, none⟩ v4).setCell ⟨g, 5, none⟩ v5).setCell ⟨g, 6, none⟩ v6).setCell ⟨g, 7, none⟩ v7).heap[k]? = W.heap[k]?) ∧
  W.heap.size ≤ ((((((((W.setCell ⟨g, 0, none⟩ v0).setCell ⟨g, 1, none⟩ v1).setCell ⟨g, 2, none⟩ v2).setCell ⟨g, 3, none⟩ v3).setCell ⟨g, 4, none⟩ v4).setCell ⟨g, 5, none⟩ v5).setCell ⟨g, 6, none⟩ v6).setCell ⟨g, 7, none⟩ v7).heap.size ∧
  ∀ (B : Nat) (w0 : World), Below B w0 W → B ≤ g → Below B w0 ((((((((W.setCell ⟨g, 0, none⟩ v0).setCell ⟨g, 1, none⟩ v1).setCell ⟨g, 2, none⟩ v2).setCell ⟨g, 3, none⟩ v3).setCell ⟨g, 4, none⟩ v4).setCell ⟨g, 5, none⟩ v5).setCell ⟨g, 6, none⟩ v6).setCell ⟨g, 7, none⟩ v7) := by
 have st : ∀ {W : World} {cs : Array Value} (o : Nat) (v : Value), W.heap[g]? = some (.cells cs t (0, 0)) → (W.setCell ⟨g, o, none⟩ v).heap[g]? = some (.cells (cs.setIfInBounds o v) t (0, 0)) := fun o v hb => by
  rw [setCell_eq_setRow _ g o _ t (0, 0) v hb]
  exact setRow_heap _ g _ _ t (0, 0) hb
 refine ⟨?_, fun k hk => ?_, by simp [World.setCell], fun B w0 hb hB => ?_⟩
 ·have := st 7 v7 (st 6 v6 (st 5 v5 (st 4 v4 (st 3 v3 (st 2 v2 (st 1 v1 (st 0 v0 h)))))))
  simpa using this
 ·have far : ∀ (W : World) (o : Nat) (v : Value), (W.setCell ⟨g, o, none⟩ v).heap[k]? = W.heap[k]? := fun W o v => Below.heap_setCell _ _ _ _ hk
  rw [far, far, far, far, far, far, far, far]
 ·have sc : ∀ {W : World} (o : Nat) (v : Value), Below B w0 W → Below B w0 (W.setCell ⟨g, o, none⟩ v) := fun o v h => h.setCell (p := ⟨g, o, none⟩) hB v
  exact sc 7 v7 (sc 6 v6 (sc 5 v5 (sc 4 v4 (sc 3 v3 (sc 2 v2 (sc 1 v1 (sc 0 v0 hb)))))))
def shibbolethlaw05_HeaderJoins.f (a0_0 : Int) (a0_1 : Int) (l0_2 : List Int) (l0_3 : List Int) (l0_4 : List Int) (a0_5 : Int) (a0_6 : Int) (a0_7 : Int) (a0_8 : Int) (a0_9 : Int) (l0_10 : List Int) (l0_11 : List Int) (l0_12 : List Int) (a0_13 : Int) (a0_14 : Int) (a0_15 : Int) (a0_16 : Int) (a0_17 : Int) (l0_18 : List Int) (l0_19 : List Int) (l0_20 : List Int) (a0_21 : Int) (a0_22 : Int) (a0_23 : Int) (l0_24 : List Int) : Option Bool := if Bt l0_2 ∧ Bt l0_3 ∧ Bt l0_4 ∧ Bt l0_10 ∧ Bt l0_11 ∧ Bt l0_12 ∧ Bt l0_18 ∧ Bt l0_19 ∧ Bt l0_20 ∧ Bt l0_24 then some true else none
def shibbolethlaw05_HeaderJoins.T1 : Bool × List (List Nat × List Nat) := (true, [([], []), ([0], [0]), ([], []), ([2], [2]), ([], []), ([4], [4]), ([], []), ([6], [6]), ([], []), ([], []), ([], []), ([8, 1, 0, 1, 8, 9, 10], [1, 8]), ([9, 3, 11, 0, 1, 2, 3, 8, 9, 10, 11], [3, 9]), ([10, 5, 12, 0, 1, 2, 3, 4, 5, 8, 9, 10, 11, 12], [5, 10]), ([7, 13, 0, 1, 2, 3, 4, 5, 6, 7, 8, 9, 10, 11, 12, 13], [7])])
def shibbolethlaw05_HeaderJoins.B1 : List Nat := [0, 1, 0, 4, 0, 16, 0, 64, 0, 0, 0, 1795, 3855, 7999, 16383]
theorem shibbolethlaw05_HeaderJoins.tab1 : rtab .any (opsOf Tryd.f4 1) = shibbolethlaw05_HeaderJoins.T1 := by kernel_rfl
theorem shibbolethlaw05_HeaderJoins.bits1 : waitsOk shibbolethlaw05_HeaderJoins.T1.2 shibbolethlaw05_HeaderJoins.B1 = true := by kernel_rfl
set_option maxHeartbeats 4000000 in
set_option maxRecDepth 100000 in
theorem shibbolethlaw05_HeaderJoins.calls (a0_0 : Int) (a0_1 : Int) (A0_2 : Option Addr) (c0_2 : Nat) (l0_2 : List Int) (A0_3 : Option Addr) (c0_3 : Nat) (l0_3 : List Int) (A0_4 : Option Addr) (c0_4 : Nat) (l0_4 : List Int) (a0_5 : Int) (a0_6 : Int) (a0_7 : Int) (a0_8 : Int) (a0_9 : Int) (A0_10 : Option Addr) (c0_10 : Nat) (l0_10 : List Int) (A0_11 : Option Addr) (c0_11 : Nat) (l0_11 : List Int) (A0_12 : Option Addr) (c0_12 : Nat) (l0_12 : List Int) (a0_13 : Int) (a0_14 : Int) (a0_15 : Int) (a0_16 : Int) (a0_17 : Int) (A0_18 : Option Addr) (c0_18 : Nat) (l0_18 : List Int) (A0_19 : Option Addr) (c0_19 : Nat) (l0_19 : List Int) (A0_20 : Option Addr) (c0_20 : Nat) (l0_20 : List Int) (a0_21 : Int) (a0_22 : Int) (a0_23 : Int) (A0_24 : Option Addr) (c0_24 : Nat) (l0_24 : List Int) (r : Bool) (w : World) (hr0_2 : Kd.C (Kd.int .u8) w A0_2 l0_2.length l0_2) (hc0_2 : l0_2.length ≤ c0_2) (hr0_3 : Kd.C (Kd.int .u8) w A0_3 l0_3.length l0_3) (hc0_3 : l0_3.length ≤ c0_3) (hr0_4 : Kd.C (Kd.int .u8) w A0_4 l0_4.length l0_4) (hc0_4 : l0_4.length ≤ c0_4) (hr0_10 : Kd.C (Kd.int .u8) w A0_10 l0_10.length l0_10) (hc0_10 : l0_10.length ≤ c0_10) (hr0_11 : Kd.C (Kd.int .u8) w A0_11 l0_11.length l0_11) (hc0_11 : l0_11.length ≤ c0_11) (hr0_12 : Kd.C (Kd.int .u8) w A0_12 l0_12.length l0_12) (hc0_12 : l0_12.length ≤ c0_12) (hr0_18 : Kd.C (Kd.int .u8) w A0_18 l0_18.length l0_18) (hc0_18 : l0_18.length ≤ c0_18) (hr0_19 : Kd.C (Kd.int .u8) w A0_19 l0_19.length l0_19) (hc0_19 : l0_19.length ≤ c0_19) (hr0_20 : Kd.C (Kd.int .u8) w A0_20 l0_20.length l0_20) (hc0_20 : l0_20.length ≤ c0_20) (hr0_24 : Kd.C (Kd.int .u8) w A0_24 l0_24.length l0_24) (hc0_24 : l0_24.length ≤ c0_24) (ht : TB w) (h : shibbolethlaw05_HeaderJoins.f a0_0 a0_1 l0_2 l0_3 l0_4 a0_5 a0_6 a0_7 a0_8 a0_9 l0_10 l0_11 l0_12 a0_13 a0_14 a0_15 a0_16 a0_17 l0_18 l0_19 l0_20 a0_21 a0_22 a0_23 l0_24 = some r) :
  Calls Tryd.prog 4 #[.agg #[.int .i64 a0_0, .int .i64 a0_1, .slice A0_2 l0_2.length c0_2, .slice A0_3 l0_3.length c0_3, .slice A0_4 l0_4.length c0_4, .int .i64 a0_5, .int .i64 a0_6, .int .i64 a0_7, .int .i64 a0_8, .int .i64 a0_9, .slice A0_10 l0_10.length c0_10, .slice A0_11 l0_11.length c0_11, .slice A0_12 l0_12.length c0_12, .int .i64 a0_13, .int .i64 a0_14, .int .i64 a0_15, .int .i64 a0_16, .int .i64 a0_17, .slice A0_18 l0_18.length c0_18, .slice A0_19 l0_19.length c0_19, .slice A0_20 l0_20.length c0_20, .int .i64 a0_21, .int .i64 a0_22, .int .i64 a0_23, .slice A0_24 l0_24.length c0_24]] w fun e w' => e = .returned (.bool r) ∧ Below w.heap.size w w' := by
 unfold shibbolethlaw05_HeaderJoins.f at h
 by_cases hall : Bt l0_2 ∧ Bt l0_3 ∧ Bt l0_4 ∧ Bt l0_10 ∧ Bt l0_11 ∧ Bt l0_12 ∧ Bt l0_18 ∧ Bt l0_19 ∧ Bt l0_20 ∧ Bt l0_24
 rotate_left
 ·rw [if_neg hall] at h; cases h
 rw [if_pos hall] at h
 obtain rfl := Option.some.inj h
 have HALL := Aside0.mk hall
 clear h hall
 have HT := Aside0.mk ht
 clear ht
 have hu39 := Tryd.underlying39
 have hu28 := Tryd.underlying28
 have hu33 := Tryd.underlying33
 have HR0_2 := Aside0.mk hr0_2
 have HC0_2 := Aside0.mk hc0_2
 clear hr0_2 hc0_2
 have HR0_3 := Aside0.mk hr0_3
 have HC0_3 := Aside0.mk hc0_3
 clear hr0_3 hc0_3
 have HR0_4 := Aside0.mk hr0_4
 have HC0_4 := Aside0.mk hc0_4
 clear hr0_4 hc0_4
 have HR0_10 := Aside0.mk hr0_10
 have HC0_10 := Aside0.mk hc0_10
 clear hr0_10 hc0_10
 have HR0_11 := Aside0.mk hr0_11
 have HC0_11 := Aside0.mk hc0_11
 clear hr0_11 hc0_11
 have HR0_12 := Aside0.mk hr0_12
 have HC0_12 := Aside0.mk hc0_12
 clear hr0_12 hc0_12
 have HR0_18 := Aside0.mk hr0_18
 have HC0_18 := Aside0.mk hc0_18
 clear hr0_18 hc0_18
 have HR0_19 := Aside0.mk hr0_19
 have HC0_19 := Aside0.mk hc0_19
 clear hr0_19 hc0_19
 have HR0_20 := Aside0.mk hr0_20
 have HC0_20 := Aside0.mk hc0_20
 clear hr0_20 hc0_20
 have HR0_24 := Aside0.mk hr0_24
 have HC0_24 := Aside0.mk hc0_24
 clear hr0_24 hc0_24
 have HB := Aside0.mk (Below.refl w.heap.size w)
 obtain ⟨V, hV⟩ : ∃ V : List Value, [.int .i64 a0_0, .int .i64 a0_1, .slice A0_2 l0_2.length c0_2, .slice A0_3 l0_3.length c0_3, .slice A0_4 l0_4.length c0_4, .int .i64 a0_5, .int .i64 a0_6, .int .i64 a0_7, .int .i64 a0_8, .int .i64 a0_9, .slice A0_10 l0_10.length c0_10, .slice A0_11 l0_11.length c0_11, .slice A0_12 l0_12.length c0_12, .int .i64 a0_13, .int .i64 a0_14, .int .i64 a0_15, .int .i64 a0_16, .int .i64 a0_17, .slice A0_18 l0_18.length c0_18, .slice A0_19 l0_19.length c0_19, .slice A0_20 l0_20.length c0_20, .int .i64 a0_21, .int .i64 a0_22, .int .i64 a0_23, .slice A0_24 l0_24.length c0_24] = V := ⟨_, rfl⟩
 obtain ⟨gb, hgb⟩ : ∃ g, w.heap.size = g := ⟨_, rfl⟩
 have LD := fun (w' : World) (h : w'.heap[gb]? = some (.cells V.toArray 39 (0, 0))) (j : Nat) (u : Value) (hj : [.int .i64 a0_0, .int .i64 a0_1, .slice A0_2 l0_2.length c0_2, .slice A0_3 l0_3.length c0_3, .slice A0_4 l0_4.length c0_4, .int .i64 a0_5, .int .i64 a0_6, .int .i64 a0_7, .int .i64 a0_8, .int .i64 a0_9, .slice A0_10 l0_10.length c0_10, .slice A0_11 l0_11.length c0_11, .slice A0_12 l0_12.length c0_12, .int .i64 a0_13, .int .i64 a0_14, .int .i64 a0_15, .int .i64 a0_16, .int .i64 a0_17, .slice A0_18 l0_18.length c0_18, .slice A0_19 l0_19.length c0_19, .slice A0_20 l0_20.length c0_20, .int .i64 a0_21, .int .i64 a0_22, .int .i64 a0_23, .slice A0_24 l0_24.length c0_24][j]? = some u) => show w'.cell? ⟨gb, j, none⟩ = some u by
  rw [hV] at hj
  simp [World.cell?, h, hj]
 have LD0 := Aside0.mk (show ∀ w' : World, w'.heap[gb]? = some (.cells V.toArray 39 (0, 0)) → w'.cell? ⟨gb, 0, none⟩ = some (.int .i64 a0_0) ∧ w'.cell? ⟨gb, 1, none⟩ = some (.int .i64 a0_1) ∧ w'.cell? ⟨gb, 2, none⟩ = some (.slice A0_2 l0_2.length c0_2) ∧ w'.cell? ⟨gb, 3, none⟩ = some (.slice A0_3 l0_3.length c0_3) ∧ w'.cell? ⟨gb, 4, none⟩ = some (.slice A0_4 l0_4.length c0_4) ∧ w'.cell? ⟨gb, 5, none⟩ = some (.int .i64 a0_5) ∧ w'.cell? ⟨gb, 6, none⟩ = some (.int .i64 a0_6) ∧ w'.cell? ⟨gb, 7, none⟩ = some (.int .i64 a0_7) from fun w' h => ⟨LD w' h 0 _ rfl, LD w' h 1 _ rfl, LD w' h 2 _ rfl, LD w' h 3 _ rfl, LD w' h 4 _ rfl, LD w' h 5 _ rfl, LD w' h 6 _ rfl, LD w' h 7 _ rfl⟩)
 have LD1 := Aside0.mk (show ∀ w' : World, w'.heap[gb]? = some (.cells V.toArray 39 (0, 0)) → w'.cell? ⟨gb, 8, none⟩ = some (.int .i64 a0_8) ∧ w'.cell? ⟨gb, 9, none⟩ = some (.int .i64 a0_9) ∧ w'.cell? ⟨gb, 10, none⟩ = some (.slice A0_10 l0_10.length c0_10) ∧ w'.cell? ⟨gb, 11, none⟩ = some (.slice A0_11 l0_11.length c0_11) ∧ w'.cell? ⟨gb, 12, none⟩ = some (.slice A0_12 l0_12.length c0_12) ∧ w'.cell? ⟨gb, 13, none⟩ = some (.int .i64 a0_13) ∧ w'.cell? ⟨gb, 14, none⟩ = some (.int .i64 a0_14) ∧ w'.cell? ⟨gb, 15, none⟩ = some (.int .i64 a0_15) from fun w' h => ⟨LD w' h 8 _ rfl, LD w' h 9 _ rfl, LD w' h 10 _ rfl, LD w' h 11 _ rfl, LD w' h 12 _ rfl, LD w' h 13 _ rfl, LD w' h 14 _ rfl, LD w' h 15 _ rfl⟩)
 have LD2 := Aside0.mk (show ∀ w' : World, w'.heap[gb]? = some (.cells V.toArray 39 (0, 0)) → w'.cell? ⟨gb, 16, none⟩ = some (.int .i64 a0_16) ∧ w'.cell? ⟨gb, 17, none⟩ = some (.int .i64 a0_17) ∧ w'.cell? ⟨gb, 18, none⟩ = some (.slice A0_18 l0_18.length c0_18) ∧ w'.cell? ⟨gb, 19, none⟩ = some (.slice A0_19 l0_19.length c0_19) ∧ w'.cell? ⟨gb, 20, none⟩ = some (.slice A0_20 l0_20.length c0_20) ∧ w'.cell? ⟨gb, 21, none⟩ = some (.int .i64 a0_21) ∧ w'.cell? ⟨gb, 22, none⟩ = some (.int .i64 a0_22) ∧ w'.cell? ⟨gb, 23, none⟩ = some (.int .i64 a0_23) from fun w' h => ⟨LD w' h 16 _ rfl, LD w' h 17 _ rfl, LD w' h 18 _ rfl, LD w' h 19 _ rfl, LD w' h 20 _ rfl, LD w' h 21 _ rfl, LD w' h 22 _ rfl, LD w' h 23 _ rfl⟩)
 have LD3 := Aside0.mk (show ∀ w' : World, w'.heap[gb]? = some (.cells V.toArray 39 (0, 0)) → w'.cell? ⟨gb, 24, none⟩ = some (.slice A0_24 l0_24.length c0_24) from fun w' h => LD w' h 24 _ rfl)
 clear LD
 go_enter Tryd.func4, Tryd.ntmps4
 go_upto_region 1 with fail
 obtain ⟨w3, hw3⟩ : ∃ x, w.alloc (.cells V.toArray 39) = x := ⟨_, rfl⟩
 try simp only [hw3, hgb]
 have P3 := Aside0.mk (show w3.heap[gb]? = some (.cells V.toArray 39 (0, 0)) by rw [← hw3, ← hgb]; exact World.alloc_heap_new _ _)
 have B3 := Aside0.mk (show Below w.heap.size w w3 by rw [← hw3]; exact below_alloc (Below.refl _ _) _)
 have HGB := Aside0.mk hgb
 clear hw3 hV hgb
 refine start_ (n := 15) (S := fun w' => w'.heap[gb]? = some (.cells V.toArray 39 (0, 0))) (ds := []) #[false, false, false, false, false, false, false, false, false, false, false, false, false, false, false] (by kernel_rfl) rfl rfl (by exact P3.out) (fun hHeld => ?_)
 refine with_tabW shibbolethlaw05_HeaderJoins.tab1 shibbolethlaw05_HeaderJoins.bits1 (fun HT_ HW_ => ?_)
 have B4 := Aside0.mk (show Below w.heap.size w w3.drew from below_drew B3.out)
 have H34 := Aside0.mk (show w3.heap.size ≤ w3.drew.heap.size from Nat.le_refl _)
 generalize w3.drew = w4 at B4 H34 hHeld ⊢
 refine pure_ (i := 0) (N := some 13) (v := ?_) (a' := ?_) #[true, false, false, false, false, false, false, false, false, false, false, false, false, false, false] rfl rfl (any_of HT_.out (by kernel_rfl)) (fun _ _ _ h => h) (Or.inl ⟨by rfl, ?_⟩) ?_ ?_
 rotate_left
 ·intro w'
  go_simp
  with_reducible rfl
 rotate_left
 ·qp_
  rfl
 refine pure_ (i := 2) (N := some 15) (v := ?_) (a' := ?_) #[true, false, true, false, false, false, false, false, false, false, false, false, false, false, false] rfl rfl (any_of HT_.out (by kernel_rfl)) (fun _ _ _ h => h) (Or.inl ⟨by rfl, ?_⟩) ?_ ?_
 rotate_left
 ·intro w'
  go_simp
  with_reducible rfl
 rotate_left
 ·qp_
  rfl
 refine pure_ (i := 4) (N := some 17) (v := ?_) (a' := ?_) #[true, false, true, false, true, false, false, false, false, false, false, false, false, false, false] rfl rfl (any_of HT_.out (by kernel_rfl)) (fun _ _ _ h => h) (Or.inl ⟨by rfl, ?_⟩) ?_ ?_
 rotate_left
 ·intro w'
  go_simp
  with_reducible rfl
 rotate_left
 ·qp_
  rfl
 refine pure_ (i := 6) (N := some 19) (v := ?_) (a' := ?_) #[true, false, true, false, true, false, true, false, false, false, false, false, false, false, false] rfl rfl (any_of HT_.out (by kernel_rfl)) (fun _ _ _ h => h) (Or.inl ⟨by rfl, ?_⟩) ?_ ?_
 rotate_left
 ·intro w'
  go_simp
  with_reducible rfl
 rotate_left
 ·qp_
  rfl
 refine take_ (i := 1) (N := some 14) (v := ?_) (a' := ?_) #[true, true, true, false, true, false, true, false, false, false, false, false, false, false, false] rfl rfl (take_ofW HT_.out HW_.out (by kernel_rfl)) (fun _ _ _ h => h) (Or.inl ⟨by rfl, ?_⟩) hHeld ?_ ?_
 rotate_left
 ·rintro w' hS
  obtain ⟨s0, s1, s2, s3, s4, s5, s6, s7⟩ := LD0.out w' hS
  clear hS
  go_simp
  with_reducible rfl
 rotate_left
 ·qp_
  rfl
 refine take_ (i := 3) (N := some 16) (v := ?_) (a' := ?_) #[true, true, true, true, true, false, true, false, false, false, false, false, false, false, false] rfl rfl (take_ofW HT_.out HW_.out (by kernel_rfl)) (fun _ _ _ h => h) (Or.inl ⟨by rfl, ?_⟩) hHeld ?_ ?_
 rotate_left
 ·rintro w' hS
  obtain ⟨s0, s1, s2, s3, s4, s5, s6, s7⟩ := LD1.out w' hS
  clear hS
  go_simp
  with_reducible rfl
 rotate_left
 ·qp_
  rfl
 refine take_ (i := 5) (N := some 18) (v := ?_) (a' := ?_) #[true, true, true, true, true, true, true, false, false, false, false, false, false, false, false] rfl rfl (take_ofW HT_.out HW_.out (by kernel_rfl)) (fun _ _ _ h => h) (Or.inl ⟨by rfl, ?_⟩) hHeld ?_ ?_
 rotate_left
 ·rintro w' hS
  obtain ⟨s0, s1, s2, s3, s4, s5, s6, s7⟩ := LD2.out w' hS
  clear hS
  go_simp
  with_reducible rfl
 rotate_left
 ·qp_
  rfl
 refine take_ (i := 7) (N := some 20) (v := ?_) (a' := ?_) #[true, true, true, true, true, true, true, true, false, false, false, false, false, false, false] rfl rfl (take_ofW HT_.out HW_.out (by kernel_rfl)) (fun _ _ _ h => h) (Or.inl ⟨by rfl, ?_⟩) hHeld ?_ ?_
 rotate_left
 ·rintro w' hS
  have s0 := LD3.out w' hS
  clear hS
  go_simp
  with_reducible rfl
 rotate_left
 ·qp_
  rfl
 refine join_ (σ := Nat × Nat × Nat) 4 #[true, true, true, true, true, true, true, true, true, true, true, false, false, false, false] (fun s_ => [(3, .pointer (some ⟨s_.1, 0, none⟩)), (4, .pointer (some ⟨s_.2.1, 0, none⟩)), (5, .pointer (some ⟨s_.2.2, 0, none⟩))]) (fun s_ w' => w'.heap[gb]? = some (.cells V.toArray 39 (0, 0)) ∧ w'.heap[s_.1]? = some (.cells #[.int .i64 0, .int .i64 0, .slice none 0 0, .slice none 0 0, .slice none 0 0, .int .i64 0, .int .i64 0, .int .i64 0] 28 (0, 0)) ∧ w'.heap[s_.2.1]? = some (.cells #[.int .i64 0, .int .i64 0, .slice none 0 0, .slice none 0 0, .slice none 0 0, .int .i64 0, .int .i64 0, .int .i64 0] 28 (0, 0)) ∧ w'.heap[s_.2.2]? = some (.cells #[.int .i64 0, .int .i64 0, .slice none 0 0, .slice none 0 0, .slice none 0 0, .int .i64 0, .int .i64 0, .int .i64 0] 28 (0, 0)) ∧ s_.1 ≠ s_.2.1 ∧ s_.1 ≠ s_.2.2 ∧ s_.2.1 ≠ s_.2.2 ∧ w4.heap.size ≤ s_.1 ∧ w4.heap.size ≤ s_.2.1 ∧ w4.heap.size ≤ s_.2.2 ∧ Below w4.heap.size w4 w') ?rest ?first
 case first =>
  intro hJ
  have HJ := Aside0.mk hJ
  clear hJ
  refine three_ (i := 8) (j := 9) (k := 10) (Ni := some 3) (Nj := some 4) (Nk := some 5) #[true, true, true, true, true, true, true, true, true, false, false, false, false, false, false] #[true, true, true, true, true, true, true, true, false, true, false, false, false, false, false] #[true, true, true, true, true, true, true, true, false, false, true, false, false, false, false] rfl rfl rfl rfl rfl rfl (three_of HT_.out (by kernel_rfl)) (by decide) (by decide) (by decide) (fun K hK => ?_) (fun K hK => ?_) (fun K hK => ?_)
  ·ll110_
   intro ga hg0 w5 hx0 hb0
   have hsz0 := hb0.size
   have hlt0 := (Array.getElem?_eq_some_iff.1 hx0).1
   ll111_
   refine hK.out _ _ hH0 (fun hHeld => ?_)
   clear hK K hH0
   refine norm_ (a' := ?_) ?_ ?_
   rotate_left
   ·show Act.put _ (some 3) _ = _
    qp_
    rfl
   refine two_ (i := 9) (j := 10) (Ni := some 4) (Nj := some 5) #[true, true, true, true, true, true, true, true, true, true, false, false, false, false, false] #[true, true, true, true, true, true, true, true, true, false, true, false, false, false, false] rfl rfl rfl rfl (two_of HT_.out (by kernel_rfl)) (by decide) (by decide) (fun K hK => ?_) (fun K hK => ?_)
   ·ll112_
    intro gc hg1 w6 hx1 hb1
    have hsz1 := hb1.size
    ll113_
    ll114_
    refine hK.out _ _ hH1 (fun hHeld => ?_)
    clear hK K hH1
    refine norm_ (a' := ?_) ?_ ?_
    rotate_left
    ·show Act.put _ (some 4) _ = _
     qp_
     rfl
    ll115_
    ·ll116_
     intro gd hg2 w7 hx2 hb2
     have hsz2 := hb2.size
     ll117_
     ll118_
     refine hK.out _ _ hH2 (fun hHeld => ?_)
     clear hK K hH2
     refine norm_ (a' := ?_) ?_ ?_
     rotate_left
     ·show Act.put _ (some 5) _ = _
      qp_
      rfl
     exact norm_ (pl110_) (HJ.out (ga, gc, gd) _ ⟨hHeld, ((hb2.block ga (by omega)).trans ((hb1.block ga (by omega)).trans hx0)), ((hb2.block gc (by omega)).trans hx1), hx2, (by dsimp only; omega), (by dsimp only; omega), (by dsimp only; omega), (by dsimp only; omega), (by dsimp only; omega), (by dsimp only; omega), (below_step (below_step hb0 hb1) hb2)⟩)
   ·ll116_
    intro gd hg1 w6 hx1 hb1
    have hsz1 := hb1.size
    ll113_
    ll114_
    refine hK.out _ _ hH1 (fun hHeld => ?_)
    clear hK K hH1
    refine norm_ (a' := ?_) ?_ ?_
    rotate_left
    ·show Act.put _ (some 5) _ = _
     qp_
     rfl
    ll119_
    ·ll112_
     intro gc hg2 w7 hx2 hb2
     have hsz2 := hb2.size
     ll117_
     ll118_
     refine hK.out _ _ hH2 (fun hHeld => ?_)
     clear hK K hH2
     refine norm_ (a' := ?_) ?_ ?_
     rotate_left
     ·show Act.put _ (some 4) _ = _
      qp_
      rfl
     exact norm_ (pl110_) (HJ.out (ga, gc, gd) _ ⟨hHeld, ((hb2.block ga (by omega)).trans ((hb1.block ga (by omega)).trans hx0)), hx2, ((hb2.block gd (by omega)).trans hx1), (by dsimp only; omega), (by dsimp only; omega), (by dsimp only; omega), (by dsimp only; omega), (by dsimp only; omega), (by dsimp only; omega), (below_step (below_step hb0 hb1) hb2)⟩)
  ·ll112_
   intro gc hg0 w5 hx0 hb0
   have hsz0 := hb0.size
   have hlt0 := (Array.getElem?_eq_some_iff.1 hx0).1
   ll111_
   refine hK.out _ _ hH0 (fun hHeld => ?_)
   clear hK K hH0
   refine norm_ (a' := ?_) ?_ ?_
   rotate_left
   ·show Act.put _ (some 4) _ = _
    qp_
    rfl
   refine two_ (i := 8) (j := 10) (Ni := some 3) (Nj := some 5) #[true, true, true, true, true, true, true, true, true, true, false, false, false, false, false] #[true, true, true, true, true, true, true, true, false, true, true, false, false, false, false] rfl rfl rfl rfl (two_of HT_.out (by kernel_rfl)) (by decide) (by decide) (fun K hK => ?_) (fun K hK => ?_)
   ·ll110_
    intro ga hg1 w6 hx1 hb1
    have hsz1 := hb1.size
    ll113_
    ll114_
    refine hK.out _ _ hH1 (fun hHeld => ?_)
    clear hK K hH1
    refine norm_ (a' := ?_) ?_ ?_
    rotate_left
    ·show Act.put _ (some 3) _ = _
     qp_
     rfl
    ll115_
    ·ll116_
     intro gd hg2 w7 hx2 hb2
     have hsz2 := hb2.size
     ll117_
     ll118_
     refine hK.out _ _ hH2 (fun hHeld => ?_)
     clear hK K hH2
     refine norm_ (a' := ?_) ?_ ?_
     rotate_left
     ·show Act.put _ (some 5) _ = _
      qp_
      rfl
     exact norm_ (pl110_) (HJ.out (ga, gc, gd) _ ⟨hHeld, ((hb2.block ga (by omega)).trans hx1), ((hb2.block gc (by omega)).trans ((hb1.block gc (by omega)).trans hx0)), hx2, (by dsimp only; omega), (by dsimp only; omega), (by dsimp only; omega), (by dsimp only; omega), (by dsimp only; omega), (by dsimp only; omega), (below_step (below_step hb0 hb1) hb2)⟩)
   ·ll116_
    intro gd hg1 w6 hx1 hb1
    have hsz1 := hb1.size
    ll113_
    ll114_
    refine hK.out _ _ hH1 (fun hHeld => ?_)
    clear hK K hH1
    refine norm_ (a' := ?_) ?_ ?_
    rotate_left
    ·show Act.put _ (some 5) _ = _
     qp_
     rfl
    ll1110_
    ·ll110_
     intro ga hg2 w7 hx2 hb2
     have hsz2 := hb2.size
     ll117_
     ll118_
     refine hK.out _ _ hH2 (fun hHeld => ?_)
     clear hK K hH2
     refine norm_ (a' := ?_) ?_ ?_
     rotate_left
     ·show Act.put _ (some 3) _ = _
      qp_
      rfl
     exact norm_ (pl110_) (HJ.out (ga, gc, gd) _ ⟨hHeld, hx2, ((hb2.block gc (by omega)).trans ((hb1.block gc (by omega)).trans hx0)), ((hb2.block gd (by omega)).trans hx1), (by dsimp only; omega), (by dsimp only; omega), (by dsimp only; omega), (by dsimp only; omega), (by dsimp only; omega), (by dsimp only; omega), (below_step (below_step hb0 hb1) hb2)⟩)
  ·ll116_
   intro gd hg0 w5 hx0 hb0
   have hsz0 := hb0.size
   have hlt0 := (Array.getElem?_eq_some_iff.1 hx0).1
   ll111_
   refine hK.out _ _ hH0 (fun hHeld => ?_)
   clear hK K hH0
   refine norm_ (a' := ?_) ?_ ?_
   rotate_left
   ·show Act.put _ (some 5) _ = _
    qp_
    rfl
   refine two_ (i := 8) (j := 9) (Ni := some 3) (Nj := some 4) #[true, true, true, true, true, true, true, true, true, false, true, false, false, false, false] #[true, true, true, true, true, true, true, true, false, true, true, false, false, false, false] rfl rfl rfl rfl (two_of HT_.out (by kernel_rfl)) (by decide) (by decide) (fun K hK => ?_) (fun K hK => ?_)
   ·ll110_
    intro ga hg1 w6 hx1 hb1
    have hsz1 := hb1.size
    ll113_
    ll114_
    refine hK.out _ _ hH1 (fun hHeld => ?_)
    clear hK K hH1
    refine norm_ (a' := ?_) ?_ ?_
    rotate_left
    ·show Act.put _ (some 3) _ = _
     qp_
     rfl
    ll119_
    ·ll112_
     intro gc hg2 w7 hx2 hb2
     have hsz2 := hb2.size
     ll117_
     ll118_
     refine hK.out _ _ hH2 (fun hHeld => ?_)
     clear hK K hH2
     refine norm_ (a' := ?_) ?_ ?_
     rotate_left
     ·show Act.put _ (some 4) _ = _
      qp_
      rfl
     exact norm_ (pl110_) (HJ.out (ga, gc, gd) _ ⟨hHeld, ((hb2.block ga (by omega)).trans hx1), hx2, ((hb2.block gd (by omega)).trans ((hb1.block gd (by omega)).trans hx0)), (by dsimp only; omega), (by dsimp only; omega), (by dsimp only; omega), (by dsimp only; omega), (by dsimp only; omega), (by dsimp only; omega), (below_step (below_step hb0 hb1) hb2)⟩)
   ·ll112_
    intro gc hg1 w6 hx1 hb1
    have hsz1 := hb1.size
    ll113_
    ll114_
    refine hK.out _ _ hH1 (fun hHeld => ?_)
    clear hK K hH1
    refine norm_ (a' := ?_) ?_ ?_
    rotate_left
    ·show Act.put _ (some 4) _ = _
     qp_
     rfl
    ll1110_
    ·ll110_
     intro ga hg2 w7 hx2 hb2
     have hsz2 := hb2.size
     ll117_
     ll118_
     refine hK.out _ _ hH2 (fun hHeld => ?_)
     clear hK K hH2
     refine norm_ (a' := ?_) ?_ ?_
     rotate_left
     ·show Act.put _ (some 3) _ = _
      qp_
      rfl
     exact norm_ (pl110_) (HJ.out (ga, gc, gd) _ ⟨hHeld, hx2, ((hb2.block gc (by omega)).trans hx1), ((hb2.block gd (by omega)).trans ((hb1.block gd (by omega)).trans hx0)), (by dsimp only; omega), (by dsimp only; omega), (by dsimp only; omega), (by dsimp only; omega), (by dsimp only; omega), (by dsimp only; omega), (below_step (below_step hb0 hb1) hb2)⟩)
 case rest =>
  rintro ⟨gb102, gb103, gb104⟩ w8 ⟨hHeld, hA, hB2, hC2, n23, n24, n34, m2, m3, m4, hb8⟩
  have hgl : gb < w4.heap.size := (by have h0 := HGB.out; have h1 := B3.out.size; have h3 := B4.out.size; have := (Array.getElem?_eq_some_iff.1 P3.out).1; have h5 : w3.heap.size ≤ w4.heap.size := H34.out; omega)
  dsimp only at hA hB2 hC2 n23 n24 n34 m2 m3 m4
  have B8 := Aside0.mk (below_step B4.out hb8)
  refine norm_ (a' := ?_) ?_ ?_
  rotate_left
  ·simp only [putAll, Act.put, List.setIfInBounds_toArray, List.set_cons_zero, List.set_cons_succ]
   rfl
  refine one_ (i := 11) (N := none) #[true, true, true, true, true, true, true, true, true, true, true, true, false, false, false] rfl rfl (one_of HT_.out (by kernel_rfl)) (by decide) (fun K hK => ?_)
  have z0 : w8.cell? ⟨gb102, 0, none⟩ = some (.int .i64 0) := (blk_cell hA 0).trans rfl
  have z1 : w8.cell? ⟨gb102, 1, none⟩ = some (.int .i64 0) := (blk_cell hA 1).trans rfl
  have z2 : w8.cell? ⟨gb102, 2, none⟩ = some (.slice none 0 0) := (blk_cell hA 2).trans rfl
  have z3 : w8.cell? ⟨gb102, 3, none⟩ = some (.slice none 0 0) := (blk_cell hA 3).trans rfl
  have z4 : w8.cell? ⟨gb102, 4, none⟩ = some (.slice none 0 0) := (blk_cell hA 4).trans rfl
  have z5 : w8.cell? ⟨gb102, 5, none⟩ = some (.int .i64 0) := (blk_cell hA 5).trans rfl
  have z6 : w8.cell? ⟨gb102, 6, none⟩ = some (.int .i64 0) := (blk_cell hA 6).trans rfl
  have z7 : w8.cell? ⟨gb102, 7, none⟩ = some (.int .i64 0) := (blk_cell hA 7).trans rfl
  have f0 := blk_frozen hA 0
  have f1 := blk_frozen hA 1
  have f2 := blk_frozen hA 2
  have f3 := blk_frozen hA 3
  have f4 := blk_frozen hA 4
  have f5 := blk_frozen hA 5
  have f6 := blk_frozen hA 6
  have f7 := blk_frozen hA 7
  refine skip_ (w1 := ?_) (by rfl) rfl ?_ ?_
  rotate_left
  ·go_simp
   rfl
  clear z0 f0 z1 f1 z2 f2 z3 f3 z4 f4 z5 f5 z6 f6 z7 f7
  have X := store8 hA (.int .i64 a0_0) (.int .i64 a0_1) (.slice A0_2 l0_2.length c0_2) (.slice A0_3 l0_3.length c0_3) (.slice A0_4 l0_4.length c0_4) (.int .i64 a0_5) (.int .i64 a0_6) (.int .i64 a0_7)
  generalize ((((((((w8.setCell ⟨gb102, 0, none⟩ (.int .i64 a0_0)).setCell ⟨gb102, 1, none⟩ (.int .i64 a0_1)).setCell ⟨gb102, 2, none⟩ (.slice A0_2 l0_2.length c0_2)).setCell ⟨gb102, 3, none⟩ (.slice A0_3 l0_3.length c0_3)).setCell ⟨gb102, 4, none⟩ (.slice A0_4 l0_4.length c0_4)).setCell ⟨gb102, 5, none⟩ (.int .i64 a0_5)).setCell ⟨gb102, 6, none⟩ (.int .i64 a0_6)).setCell ⟨gb102, 7, none⟩ (.int .i64 a0_7)) = w9 at X ⊢
  obtain ⟨x1, x2, x3, x4⟩ := X
  have hH := (x2 gb (by omega)).trans hHeld
  replace hB2 := (x2 gb103 (by omega)).trans hB2
  replace hC2 := (x2 gb104 (by omega)).trans hC2
  have hA' := x1
  clear hA
  have hA := hA'
  clear hA'
  have BN := Aside0.mk (x4 _ _ B8.out (by have := B4.out.size; omega))
  clear B8 x1 x2 x3 x4
  have B8 := BN
  clear BN
  refine hK.out _ _ hH (fun hHeld2 => ?_)
  clear hK K hHeld hH
  have hHeld := hHeld2
  clear hHeld2
  refine one_ (i := 12) (N := none) #[true, true, true, true, true, true, true, true, true, true, true, true, true, false, false] rfl rfl (one_of HT_.out (by kernel_rfl)) (by decide) (fun K hK => ?_)
  have z0 : w9.cell? ⟨gb103, 0, none⟩ = some (.int .i64 0) := (blk_cell hB2 0).trans rfl
  have z1 : w9.cell? ⟨gb103, 1, none⟩ = some (.int .i64 0) := (blk_cell hB2 1).trans rfl
  have z2 : w9.cell? ⟨gb103, 2, none⟩ = some (.slice none 0 0) := (blk_cell hB2 2).trans rfl
  have z3 : w9.cell? ⟨gb103, 3, none⟩ = some (.slice none 0 0) := (blk_cell hB2 3).trans rfl
  have z4 : w9.cell? ⟨gb103, 4, none⟩ = some (.slice none 0 0) := (blk_cell hB2 4).trans rfl
  have z5 : w9.cell? ⟨gb103, 5, none⟩ = some (.int .i64 0) := (blk_cell hB2 5).trans rfl
  have z6 : w9.cell? ⟨gb103, 6, none⟩ = some (.int .i64 0) := (blk_cell hB2 6).trans rfl
  have z7 : w9.cell? ⟨gb103, 7, none⟩ = some (.int .i64 0) := (blk_cell hB2 7).trans rfl
  have f0 := blk_frozen hB2 0
  have f1 := blk_frozen hB2 1
  have f2 := blk_frozen hB2 2
  have f3 := blk_frozen hB2 3
  have f4 := blk_frozen hB2 4
  have f5 := blk_frozen hB2 5
  have f6 := blk_frozen hB2 6
  have f7 := blk_frozen hB2 7
  refine skip_ (w1 := ?_) (by rfl) rfl ?_ ?_
  rotate_left
  ·go_simp
   rfl
  clear z0 f0 z1 f1 z2 f2 z3 f3 z4 f4 z5 f5 z6 f6 z7 f7
  have X := store8 hB2 (.int .i64 a0_8) (.int .i64 a0_9) (.slice A0_10 l0_10.length c0_10) (.slice A0_11 l0_11.length c0_11) (.slice A0_12 l0_12.length c0_12) (.int .i64 a0_13) (.int .i64 a0_14) (.int .i64 a0_15)
  generalize ((((((((w9.setCell ⟨gb103, 0, none⟩ (.int .i64 a0_8)).setCell ⟨gb103, 1, none⟩ (.int .i64 a0_9)).setCell ⟨gb103, 2, none⟩ (.slice A0_10 l0_10.length c0_10)).setCell ⟨gb103, 3, none⟩ (.slice A0_11 l0_11.length c0_11)).setCell ⟨gb103, 4, none⟩ (.slice A0_12 l0_12.length c0_12)).setCell ⟨gb103, 5, none⟩ (.int .i64 a0_13)).setCell ⟨gb103, 6, none⟩ (.int .i64 a0_14)).setCell ⟨gb103, 7, none⟩ (.int .i64 a0_15)) = w10 at X ⊢
  obtain ⟨x1, x2, x3, x4⟩ := X
  have hH := (x2 gb (by omega)).trans hHeld
  replace hA := (x2 gb102 (by omega)).trans hA
  replace hC2 := (x2 gb104 (by omega)).trans hC2
  have hB2' := x1
  clear hB2
  have hB2 := hB2'
  clear hB2'
  have BN := Aside0.mk (x4 _ _ B8.out (by have := B4.out.size; omega))
  clear B8 x1 x2 x3 x4
  have B8 := BN
  clear BN
  refine hK.out _ _ hH (fun hHeld2 => ?_)
  clear hK K hHeld hH
  have hHeld := hHeld2
  clear hHeld2
  refine one_ (i := 13) (N := none) #[true, true, true, true, true, true, true, true, true, true, true, true, true, true, false] rfl rfl (one_of HT_.out (by kernel_rfl)) (by decide) (fun K hK => ?_)
  have z0 : w10.cell? ⟨gb104, 0, none⟩ = some (.int .i64 0) := (blk_cell hC2 0).trans rfl
  have z1 : w10.cell? ⟨gb104, 1, none⟩ = some (.int .i64 0) := (blk_cell hC2 1).trans rfl
  have z2 : w10.cell? ⟨gb104, 2, none⟩ = some (.slice none 0 0) := (blk_cell hC2 2).trans rfl
  have z3 : w10.cell? ⟨gb104, 3, none⟩ = some (.slice none 0 0) := (blk_cell hC2 3).trans rfl
  have z4 : w10.cell? ⟨gb104, 4, none⟩ = some (.slice none 0 0) := (blk_cell hC2 4).trans rfl
  have z5 : w10.cell? ⟨gb104, 5, none⟩ = some (.int .i64 0) := (blk_cell hC2 5).trans rfl
  have z6 : w10.cell? ⟨gb104, 6, none⟩ = some (.int .i64 0) := (blk_cell hC2 6).trans rfl
  have z7 : w10.cell? ⟨gb104, 7, none⟩ = some (.int .i64 0) := (blk_cell hC2 7).trans rfl
  have f0 := blk_frozen hC2 0
  have f1 := blk_frozen hC2 1
  have f2 := blk_frozen hC2 2
  have f3 := blk_frozen hC2 3
  have f4 := blk_frozen hC2 4
  have f5 := blk_frozen hC2 5
  have f6 := blk_frozen hC2 6
  have f7 := blk_frozen hC2 7
  refine skip_ (w1 := ?_) (by rfl) rfl ?_ ?_
  rotate_left
  ·go_simp
   rfl
  clear z0 f0 z1 f1 z2 f2 z3 f3 z4 f4 z5 f5 z6 f6 z7 f7
  have X := store8 hC2 (.int .i64 a0_16) (.int .i64 a0_17) (.slice A0_18 l0_18.length c0_18) (.slice A0_19 l0_19.length c0_19) (.slice A0_20 l0_20.length c0_20) (.int .i64 a0_21) (.int .i64 a0_22) (.int .i64 a0_23)
  generalize ((((((((w10.setCell ⟨gb104, 0, none⟩ (.int .i64 a0_16)).setCell ⟨gb104, 1, none⟩ (.int .i64 a0_17)).setCell ⟨gb104, 2, none⟩ (.slice A0_18 l0_18.length c0_18)).setCell ⟨gb104, 3, none⟩ (.slice A0_19 l0_19.length c0_19)).setCell ⟨gb104, 4, none⟩ (.slice A0_20 l0_20.length c0_20)).setCell ⟨gb104, 5, none⟩ (.int .i64 a0_21)).setCell ⟨gb104, 6, none⟩ (.int .i64 a0_22)).setCell ⟨gb104, 7, none⟩ (.int .i64 a0_23)) = w11 at X ⊢
  obtain ⟨x1, x2, x3, x4⟩ := X
  have hH := (x2 gb (by omega)).trans hHeld
  replace hA := (x2 gb102 (by omega)).trans hA
  replace hB2 := (x2 gb103 (by omega)).trans hB2
  have hC2' := x1
  clear hC2
  have hC2 := hC2'
  clear hC2'
  have BN := Aside0.mk (x4 _ _ B8.out (by have := B4.out.size; omega))
  clear B8 x1 x2 x3 x4
  have B8 := BN
  clear BN
  refine hK.out _ _ hH (fun hHeld2 => ?_)
  clear hK K hHeld hH
  have hHeld := hHeld2
  clear hHeld2
  refine pure_ (i := 14) (N := some 6) (v := ?_) (a' := ?_) #[true, true, true, true, true, true, true, true, true, true, true, true, true, true, true] rfl rfl (any_of HT_.out (by kernel_rfl)) (fun _ _ _ h => h) (Or.inl ⟨by rfl, ?_⟩) ?_ ?_
  rotate_left
  ·intro w'
   go_simp
   with_reducible rfl
  rotate_left
  ·qp_
   rfl
  refine done_ (done_of HT_.out (by kernel_rfl)) ?_
  have QA := Aside0.mk (show ∀ W, Below w11.heap.size w11 W → W.cell? ⟨gb102, 0, none⟩ = some (.int .i64 a0_0) ∧ W.cell? ⟨gb102, 1, none⟩ = some (.int .i64 a0_1) ∧ W.cell? ⟨gb102, 2, none⟩ = some (.slice A0_2 l0_2.length c0_2) ∧ W.cell? ⟨gb102, 3, none⟩ = some (.slice A0_3 l0_3.length c0_3) ∧ W.cell? ⟨gb102, 4, none⟩ = some (.slice A0_4 l0_4.length c0_4) ∧ W.cell? ⟨gb102, 5, none⟩ = some (.int .i64 a0_5) ∧ W.cell? ⟨gb102, 6, none⟩ = some (.int .i64 a0_6) ∧ W.cell? ⟨gb102, 7, none⟩ = some (.int .i64 a0_7) ∧ W.cell? ⟨gb103, 0, none⟩ = some (.int .i64 a0_8) ∧ W.cell? ⟨gb103, 1, none⟩ = some (.int .i64 a0_9) ∧ W.cell? ⟨gb103, 2, none⟩ = some (.slice A0_10 l0_10.length c0_10) ∧ W.cell? ⟨gb103, 3, none⟩ = some (.slice A0_11 l0_11.length c0_11) ∧ W.cell? ⟨gb103, 4, none⟩ = some (.slice A0_12 l0_12.length c0_12) ∧ W.cell? ⟨gb103, 5, none⟩ = some (.int .i64 a0_13) ∧ W.cell? ⟨gb103, 6, none⟩ = some (.int .i64 a0_14) ∧ W.cell? ⟨gb103, 7, none⟩ = some (.int .i64 a0_15) ∧ W.cell? ⟨gb104, 0, none⟩ = some (.int .i64 a0_16) ∧ W.cell? ⟨gb104, 1, none⟩ = some (.int .i64 a0_17) ∧ W.cell? ⟨gb104, 2, none⟩ = some (.slice A0_18 l0_18.length c0_18) ∧ W.cell? ⟨gb104, 3, none⟩ = some (.slice A0_19 l0_19.length c0_19) ∧ W.cell? ⟨gb104, 4, none⟩ = some (.slice A0_20 l0_20.length c0_20) ∧ W.cell? ⟨gb104, 5, none⟩ = some (.int .i64 a0_21) ∧ W.cell? ⟨gb104, 6, none⟩ = some (.int .i64 a0_22) ∧ W.cell? ⟨gb104, 7, none⟩ = some (.int .i64 a0_23) from fun W hb => ⟨(blk_cell ((hb.block gb102 (Array.getElem?_eq_some_iff.1 hA).1).trans hA) 0).trans rfl, (blk_cell ((hb.block gb102 (Array.getElem?_eq_some_iff.1 hA).1).trans hA) 1).trans rfl, (blk_cell ((hb.block gb102 (Array.getElem?_eq_some_iff.1 hA).1).trans hA) 2).trans rfl, (blk_cell ((hb.block gb102 (Array.getElem?_eq_some_iff.1 hA).1).trans hA) 3).trans rfl, (blk_cell ((hb.block gb102 (Array.getElem?_eq_some_iff.1 hA).1).trans hA) 4).trans rfl, (blk_cell ((hb.block gb102 (Array.getElem?_eq_some_iff.1 hA).1).trans hA) 5).trans rfl, (blk_cell ((hb.block gb102 (Array.getElem?_eq_some_iff.1 hA).1).trans hA) 6).trans rfl, (blk_cell ((hb.block gb102 (Array.getElem?_eq_some_iff.1 hA).1).trans hA) 7).trans rfl, (blk_cell ((hb.block gb103 (Array.getElem?_eq_some_iff.1 hB2).1).trans hB2) 0).trans rfl, (blk_cell ((hb.block gb103 (Array.getElem?_eq_some_iff.1 hB2).1).trans hB2) 1).trans rfl, (blk_cell ((hb.block gb103 (Array.getElem?_eq_some_iff.1 hB2).1).trans hB2) 2).trans rfl, (blk_cell ((hb.block gb103 (Array.getElem?_eq_some_iff.1 hB2).1).trans hB2) 3).trans rfl, (blk_cell ((hb.block gb103 (Array.getElem?_eq_some_iff.1 hB2).1).trans hB2) 4).trans rfl, (blk_cell ((hb.block gb103 (Array.getElem?_eq_some_iff.1 hB2).1).trans hB2) 5).trans rfl, (blk_cell ((hb.block gb103 (Array.getElem?_eq_some_iff.1 hB2).1).trans hB2) 6).trans rfl, (blk_cell ((hb.block gb103 (Array.getElem?_eq_some_iff.1 hB2).1).trans hB2) 7).trans rfl, (blk_cell ((hb.block gb104 (Array.getElem?_eq_some_iff.1 hC2).1).trans hC2) 0).trans rfl, (blk_cell ((hb.block gb104 (Array.getElem?_eq_some_iff.1 hC2).1).trans hC2) 1).trans rfl, (blk_cell ((hb.block gb104 (Array.getElem?_eq_some_iff.1 hC2).1).trans hC2) 2).trans rfl, (blk_cell ((hb.block gb104 (Array.getElem?_eq_some_iff.1 hC2).1).trans hC2) 3).trans rfl, (blk_cell ((hb.block gb104 (Array.getElem?_eq_some_iff.1 hC2).1).trans hC2) 4).trans rfl, (blk_cell ((hb.block gb104 (Array.getElem?_eq_some_iff.1 hC2).1).trans hC2) 5).trans rfl, (blk_cell ((hb.block gb104 (Array.getElem?_eq_some_iff.1 hC2).1).trans hC2) 6).trans rfl, (blk_cell ((hb.block gb104 (Array.getElem?_eq_some_iff.1 hC2).1).trans hC2) 7).trans rfl⟩)
  clear hA hB2 hC2 hHeld n23 n24 n34 m2 m3 m4 hgl LD0 LD1 LD2 LD3 P3 HT_ HW_
  have LT0 := fun (W : World) (hb : Below w.heap.size w W) => shibbolethlaw05_light.calls a0_0 a0_1 A0_2 c0_2 l0_2 A0_3 c0_3 l0_3 A0_4 c0_4 l0_4 a0_5 a0_6 a0_7 _ W (Kd.C_below HR0_2.out hb) HC0_2.out (Kd.C_below HR0_3.out hb) HC0_3.out (Kd.C_below HR0_4.out hb) HC0_4.out (light_f _ _ _ _ _ _ _ _)
  obtain ⟨b0, eb0⟩ : ∃ b, lightB l0_2 l0_3 l0_4 = b := ⟨_, rfl⟩
  rw [eb0] at LT0
  have LT1 := fun (W : World) (hb : Below w.heap.size w W) => shibbolethlaw05_light.calls a0_8 a0_9 A0_10 c0_10 l0_10 A0_11 c0_11 l0_11 A0_12 c0_12 l0_12 a0_13 a0_14 a0_15 _ W (Kd.C_below HR0_10.out hb) HC0_10.out (Kd.C_below HR0_11.out hb) HC0_11.out (Kd.C_below HR0_12.out hb) HC0_12.out (light_f _ _ _ _ _ _ _ _)
  obtain ⟨b1, eb1⟩ : ∃ b, lightB l0_10 l0_11 l0_12 = b := ⟨_, rfl⟩
  rw [eb1] at LT1
  have LT2 := fun (W : World) (hb : Below w.heap.size w W) => shibbolethlaw05_light.calls a0_16 a0_17 A0_18 c0_18 l0_18 A0_19 c0_19 l0_19 A0_20 c0_20 l0_20 a0_21 a0_22 a0_23 _ W (Kd.C_below HR0_18.out hb) HC0_18.out (Kd.C_below HR0_19.out hb) HC0_19.out (Kd.C_below HR0_20.out hb) HC0_20.out (light_f _ _ _ _ _ _ _ _)
  obtain ⟨b2, eb2⟩ : ∃ b, lightB l0_18 l0_19 l0_20 = b := ⟨_, rfl⟩
  rw [eb2] at LT2
  obtain ⟨y0, y1, y2, y3, y4, y5, y6, y7, y8, y9, y10, y11, y12, y13, y14, y15, y16, y17, y18, y19, y20, y21, y22, y23⟩ := QA.out w11 (Below.refl _ _)
  rcases b0 with _ | _
  ·clear eb0 eb1 eb2
   go_wp2_with (first | (go_at_call 10; with_reducible refine (LT0 _ B8.out).mono ?_; rintro e12 w12 ⟨rfl, hb12⟩; have B12 := Aside0.mk (below_step B8.out hb12); have E12 := below_step (Below.refl _ _) hb12; obtain ⟨z0, z1, z2, z3, z4, z5, z6, z7, z8, z9, z10, z11, z12, z13, z14, z15, z16, z17, z18, z19, z20, z21, z22, z23⟩ := QA.out w12 E12; clear hb12))
   go_ret
   exact ⟨rfl, B12.out⟩
  rcases b1 with _ | _
  ·clear eb0 eb1 eb2
   go_wp2_with (first | (go_at_call 10; with_reducible refine (LT0 _ B8.out).mono ?_; rintro e12 w12 ⟨rfl, hb12⟩; have B12 := Aside0.mk (below_step B8.out hb12); have E12 := below_step (Below.refl _ _) hb12; obtain ⟨z0, z1, z2, z3, z4, z5, z6, z7, z8, z9, z10, z11, z12, z13, z14, z15, z16, z17, z18, z19, z20, z21, z22, z23⟩ := QA.out w12 E12; clear hb12) | (go_at_call 10; with_reducible refine (LT1 _ B12.out).mono ?_; rintro e13 w13 ⟨rfl, hb13⟩; have B13 := Aside0.mk (below_step B12.out hb13); have E13 := below_step E12 hb13; obtain ⟨u0, u1, u2, u3, u4, u5, u6, u7, u8, u9, u10, u11, u12, u13, u14, u15, u16, u17, u18, u19, u20, u21, u22, u23⟩ := QA.out w13 E13; clear hb13))
   go_ret
   exact ⟨rfl, B13.out⟩
  rcases b2 with _ | _
  ·clear eb0 eb1 eb2
   go_wp2_with (first | (go_at_call 10; with_reducible refine (LT0 _ B8.out).mono ?_; rintro e12 w12 ⟨rfl, hb12⟩; have B12 := Aside0.mk (below_step B8.out hb12); have E12 := below_step (Below.refl _ _) hb12; obtain ⟨z0, z1, z2, z3, z4, z5, z6, z7, z8, z9, z10, z11, z12, z13, z14, z15, z16, z17, z18, z19, z20, z21, z22, z23⟩ := QA.out w12 E12; clear hb12) | (go_at_call 10; with_reducible refine (LT1 _ B12.out).mono ?_; rintro e13 w13 ⟨rfl, hb13⟩; have B13 := Aside0.mk (below_step B12.out hb13); have E13 := below_step E12 hb13; obtain ⟨u0, u1, u2, u3, u4, u5, u6, u7, u8, u9, u10, u11, u12, u13, u14, u15, u16, u17, u18, u19, u20, u21, u22, u23⟩ := QA.out w13 E13; clear hb13) | (go_at_call 10; with_reducible refine (LT2 _ B13.out).mono ?_; rintro e14 w14 ⟨rfl, hb14⟩; have B14 := Aside0.mk (below_step B13.out hb14); have E14 := below_step E13 hb14; obtain ⟨v0, v1, v2, v3, v4, v5, v6, v7, v8, v9, v10, v11, v12, v13, v14, v15, v16, v17, v18, v19, v20, v21, v22, v23⟩ := QA.out w14 E14; clear hb14))
   go_ret
   exact ⟨rfl, B14.out⟩
  by_cases hl : (300 : Int) < (l0_24.length : Int)
  ·have d1 : decide ((300 : Int) < (l0_24.length : Int)) = true := decide_eq_true hl
   have d2 : decide (300 < l0_24.length) = true := decide_eq_true (by omega)
   clear eb0 eb1 eb2 hl
   go_wp2_with (first | (go_at_call 10; with_reducible refine (LT0 _ B8.out).mono ?_; rintro e12 w12 ⟨rfl, hb12⟩; have B12 := Aside0.mk (below_step B8.out hb12); have E12 := below_step (Below.refl _ _) hb12; obtain ⟨z0, z1, z2, z3, z4, z5, z6, z7, z8, z9, z10, z11, z12, z13, z14, z15, z16, z17, z18, z19, z20, z21, z22, z23⟩ := QA.out w12 E12; clear hb12) | (go_at_call 10; with_reducible refine (LT1 _ B12.out).mono ?_; rintro e13 w13 ⟨rfl, hb13⟩; have B13 := Aside0.mk (below_step B12.out hb13); have E13 := below_step E12 hb13; obtain ⟨u0, u1, u2, u3, u4, u5, u6, u7, u8, u9, u10, u11, u12, u13, u14, u15, u16, u17, u18, u19, u20, u21, u22, u23⟩ := QA.out w13 E13; clear hb13) | (go_at_call 10; with_reducible refine (LT2 _ B13.out).mono ?_; rintro e14 w14 ⟨rfl, hb14⟩; have B14 := Aside0.mk (below_step B13.out hb14); have E14 := below_step E13 hb14; obtain ⟨v0, v1, v2, v3, v4, v5, v6, v7, v8, v9, v10, v11, v12, v13, v14, v15, v16, v17, v18, v19, v20, v21, v22, v23⟩ := QA.out w14 E14; clear hb14))
   go_ret
   exact ⟨rfl, B14.out⟩
  have d1 : decide ((300 : Int) < (l0_24.length : Int)) = false := decide_eq_false hl
  have d2 : decide (300 < l0_24.length) = false := decide_eq_false (by omega)
  by_cases h3 : a0_0 = 3
  ·have k1 : decide (a0_0 = 3) = true := decide_eq_true h3
   have k2 : (a0_0 == 3) = true := by simp [h3]
   clear eb0 eb1 eb2 hl h3
   go_wp2_with (first | (go_at_call 10; with_reducible refine (LT0 _ B8.out).mono ?_; rintro e12 w12 ⟨rfl, hb12⟩; have B12 := Aside0.mk (below_step B8.out hb12); have E12 := below_step (Below.refl _ _) hb12; obtain ⟨z0, z1, z2, z3, z4, z5, z6, z7, z8, z9, z10, z11, z12, z13, z14, z15, z16, z17, z18, z19, z20, z21, z22, z23⟩ := QA.out w12 E12; clear hb12) | (go_at_call 10; with_reducible refine (LT1 _ B12.out).mono ?_; rintro e13 w13 ⟨rfl, hb13⟩; have B13 := Aside0.mk (below_step B12.out hb13); have E13 := below_step E12 hb13; obtain ⟨u0, u1, u2, u3, u4, u5, u6, u7, u8, u9, u10, u11, u12, u13, u14, u15, u16, u17, u18, u19, u20, u21, u22, u23⟩ := QA.out w13 E13; clear hb13) | (go_at_call 10; with_reducible refine (LT2 _ B13.out).mono ?_; rintro e14 w14 ⟨rfl, hb14⟩; have B14 := Aside0.mk (below_step B13.out hb14); have E14 := below_step E13 hb14; obtain ⟨v0, v1, v2, v3, v4, v5, v6, v7, v8, v9, v10, v11, v12, v13, v14, v15, v16, v17, v18, v19, v20, v21, v22, v23⟩ := QA.out w14 E14; clear hb14))
   go_ret
   exact ⟨rfl, B14.out⟩
  by_cases h3' : a0_8 = 3
  ·have k1 : decide (a0_8 = 3) = true := decide_eq_true h3'
   have k2 : (a0_8 == 3) = true := by simp [h3']
   have k3 : decide (a0_0 = 3) = false := decide_eq_false h3
   have k4 : (a0_0 == 3) = false := by simp [h3]
   clear eb0 eb1 eb2 hl h3 h3'
   go_wp2_with (first | (go_at_call 10; with_reducible refine (LT0 _ B8.out).mono ?_; rintro e12 w12 ⟨rfl, hb12⟩; have B12 := Aside0.mk (below_step B8.out hb12); have E12 := below_step (Below.refl _ _) hb12; obtain ⟨z0, z1, z2, z3, z4, z5, z6, z7, z8, z9, z10, z11, z12, z13, z14, z15, z16, z17, z18, z19, z20, z21, z22, z23⟩ := QA.out w12 E12; clear hb12) | (go_at_call 10; with_reducible refine (LT1 _ B12.out).mono ?_; rintro e13 w13 ⟨rfl, hb13⟩; have B13 := Aside0.mk (below_step B12.out hb13); have E13 := below_step E12 hb13; obtain ⟨u0, u1, u2, u3, u4, u5, u6, u7, u8, u9, u10, u11, u12, u13, u14, u15, u16, u17, u18, u19, u20, u21, u22, u23⟩ := QA.out w13 E13; clear hb13) | (go_at_call 10; with_reducible refine (LT2 _ B13.out).mono ?_; rintro e14 w14 ⟨rfl, hb14⟩; have B14 := Aside0.mk (below_step B13.out hb14); have E14 := below_step E13 hb14; obtain ⟨v0, v1, v2, v3, v4, v5, v6, v7, v8, v9, v10, v11, v12, v13, v14, v15, v16, v17, v18, v19, v20, v21, v22, v23⟩ := QA.out w14 E14; clear hb14))
   go_ret
   exact ⟨rfl, B14.out⟩
  have k1 : decide (a0_8 = 3) = false := decide_eq_false h3'
  have k2 : (a0_8 == 3) = false := by simp [h3']
  have k3 : decide (a0_0 = 3) = false := decide_eq_false h3
  have k4 : (a0_0 == 3) = false := by simp [h3]
  have HK := Aside0.mk (And.intro h3 h3')
  have HLEN0 := Aside0.mk (show l0_2.length ≤ 100 ∧ l0_3.length ≤ 100 ∧ l0_4.length ≤ 200 by unfold lightB at eb0; have := of_decide_eq_true eb0; omega)
  have HLEN1 := Aside0.mk (show l0_10.length ≤ 100 ∧ l0_11.length ≤ 100 ∧ l0_12.length ≤ 200 by unfold lightB at eb1; have := of_decide_eq_true eb1; omega)
  have HLEN2 := Aside0.mk (show l0_18.length ≤ 100 ∧ l0_19.length ≤ 100 ∧ l0_20.length ≤ 200 by unfold lightB at eb2; have := of_decide_eq_true eb2; omega)
  have HLB := Aside0.mk (show l0_24.length ≤ 300 by omega)
  clear eb0 eb1 eb2 hl h3 h3'
  go_upto_region 4 with (first | (go_at_call 10; with_reducible refine (LT0 _ B8.out).mono ?_; rintro e12 w12 ⟨rfl, hb12⟩; have B12 := Aside0.mk (below_step B8.out hb12); have E12 := below_step (Below.refl _ _) hb12; obtain ⟨z0, z1, z2, z3, z4, z5, z6, z7, z8, z9, z10, z11, z12, z13, z14, z15, z16, z17, z18, z19, z20, z21, z22, z23⟩ := QA.out w12 E12; clear hb12) | (go_at_call 10; with_reducible refine (LT1 _ B12.out).mono ?_; rintro e13 w13 ⟨rfl, hb13⟩; have B13 := Aside0.mk (below_step B12.out hb13); have E13 := below_step E12 hb13; obtain ⟨u0, u1, u2, u3, u4, u5, u6, u7, u8, u9, u10, u11, u12, u13, u14, u15, u16, u17, u18, u19, u20, u21, u22, u23⟩ := QA.out w13 E13; clear hb13) | (go_at_call 10; with_reducible refine (LT2 _ B13.out).mono ?_; rintro e14 w14 ⟨rfl, hb14⟩; have B14 := Aside0.mk (below_step B13.out hb14); have E14 := below_step E13 hb14; obtain ⟨v0, v1, v2, v3, v4, v5, v6, v7, v8, v9, v10, v11, v12, v13, v14, v15, v16, v17, v18, v19, v20, v21, v22, v23⟩ := QA.out w14 E14; clear hb14))
  clear LT0 LT1 LT2 y0 y1 y2 y3 y4 y5 y6 y7 y8 y9 y10 y11 y12 y13 y14 y15 y16 y17 y18 y19 y20 y21 y22 y23 z0 z1 z2 z3 z4 z5 z6 z7 z8 z9 z10 z11 z12 z13 z14 z15 z16 z17 z18 z19 z20 z21 z22 z23 u0 u1 u2 u3 u4 u5 u6 u7 u8 u9 u10 u11 u12 u13 u14 u15 u16 u17 u18 u19 u20 u21 u22 u23 d1 d2 k1 k2 k3 k4
  have AW := fun (W : World) (hb : Below w.heap.size w W) => shibbolethlaw05_awake.calls 3000 true W (TB.below HT.out hb) (awake_f 3000 (by omega))
  obtain ⟨rw0, hrw0⟩ : ∃ x, (if hright a0_0 a0_1 l0_2 l0_3 l0_4 a0_5 a0_6 a0_7 ∧ (0 : Int) ≤ (l0_24.length : Int) ∧ (l0_24.length : Int) ≤ 16384 then hbytes a0_0 a0_1 l0_2 l0_3 l0_4 a0_5 a0_6 a0_7 (l0_24.length : Int) else []) = x := ⟨_, rfl⟩
  have HRW0 := Aside0.mk hrw0
  clear hrw0
  have OF0 := Aside0.mk (fun (W : World) (hb : Below w14.heap.size w14 W) => shibbolethlaw05_of.calls a0_0 a0_1 A0_2 c0_2 l0_2 A0_3 c0_3 l0_3 A0_4 c0_4 l0_4 a0_5 a0_6 a0_7 _ _ _ _ _ _ _ _ W (Kd.C_below HR0_2.out (below_step B14.out hb)) HC0_2.out (Kd.C_below HR0_3.out (below_step B14.out hb)) HC0_3.out (Kd.C_below HR0_4.out (below_step B14.out hb)) HC0_4.out (of_f _ _ _ _ _ _ _ _ (by have := HLEN0.out; omega) (by have := HLEN0.out; omega) (by have := HLEN0.out; omega)))
  obtain ⟨rw1, hrw1⟩ : ∃ x, (if hright a0_8 a0_9 l0_10 l0_11 l0_12 a0_13 a0_14 a0_15 ∧ (0 : Int) ≤ (0 : Int) ∧ (0 : Int) ≤ 16384 then hbytes a0_8 a0_9 l0_10 l0_11 l0_12 a0_13 a0_14 a0_15 (0 : Int) else []) = x := ⟨_, rfl⟩
  have HRW1 := Aside0.mk hrw1
  clear hrw1
  have OF1 := Aside0.mk (fun (W : World) (hb : Below w14.heap.size w14 W) => shibbolethlaw05_of.calls a0_8 a0_9 A0_10 c0_10 l0_10 A0_11 c0_11 l0_11 A0_12 c0_12 l0_12 a0_13 a0_14 a0_15 _ _ _ _ _ _ _ _ W (Kd.C_below HR0_10.out (below_step B14.out hb)) HC0_10.out (Kd.C_below HR0_11.out (below_step B14.out hb)) HC0_11.out (Kd.C_below HR0_12.out (below_step B14.out hb)) HC0_12.out (of_f _ _ _ _ _ _ _ _ (by have := HLEN1.out; omega) (by have := HLEN1.out; omega) (by have := HLEN1.out; omega)))
  obtain ⟨rw2, hrw2⟩ : ∃ x, (if hright a0_16 a0_17 l0_18 l0_19 l0_20 a0_21 a0_22 a0_23 ∧ (0 : Int) ≤ (l0_24.length : Int) ∧ (l0_24.length : Int) ≤ 16384 then hbytes a0_16 a0_17 l0_18 l0_19 l0_20 a0_21 a0_22 a0_23 (l0_24.length : Int) else []) = x := ⟨_, rfl⟩
  have HRW2 := Aside0.mk hrw2
  clear hrw2
  have OF2 := Aside0.mk (fun (W : World) (hb : Below w14.heap.size w14 W) => shibbolethlaw05_of.calls a0_16 a0_17 A0_18 c0_18 l0_18 A0_19 c0_19 l0_19 A0_20 c0_20 l0_20 a0_21 a0_22 a0_23 _ _ _ _ _ _ _ _ W (Kd.C_below HR0_18.out (below_step B14.out hb)) HC0_18.out (Kd.C_below HR0_19.out (below_step B14.out hb)) HC0_19.out (Kd.C_below HR0_20.out (below_step B14.out hb)) HC0_20.out (of_f _ _ _ _ _ _ _ _ (by have := HLEN2.out; omega) (by have := HLEN2.out; omega) (by have := HLEN2.out; omega)))
  have KEEP := Aside0.mk (show ∀ W, Below w14.heap.size w14 W → Below w14.heap.size w14 W ∧ W.cell? ⟨gb102, 0, none⟩ = some (.int .i64 a0_0) ∧ W.cell? ⟨gb102, 1, none⟩ = some (.int .i64 a0_1) ∧ W.cell? ⟨gb102, 2, none⟩ = some (.slice A0_2 l0_2.length c0_2) ∧ W.cell? ⟨gb102, 3, none⟩ = some (.slice A0_3 l0_3.length c0_3) ∧ W.cell? ⟨gb102, 4, none⟩ = some (.slice A0_4 l0_4.length c0_4) ∧ W.cell? ⟨gb102, 5, none⟩ = some (.int .i64 a0_5) ∧ W.cell? ⟨gb102, 6, none⟩ = some (.int .i64 a0_6) ∧ W.cell? ⟨gb102, 7, none⟩ = some (.int .i64 a0_7) ∧ W.cell? ⟨gb103, 0, none⟩ = some (.int .i64 a0_8) ∧ W.cell? ⟨gb103, 1, none⟩ = some (.int .i64 a0_9) ∧ W.cell? ⟨gb103, 2, none⟩ = some (.slice A0_10 l0_10.length c0_10) ∧ W.cell? ⟨gb103, 3, none⟩ = some (.slice A0_11 l0_11.length c0_11) ∧ W.cell? ⟨gb103, 4, none⟩ = some (.slice A0_12 l0_12.length c0_12) ∧ W.cell? ⟨gb103, 5, none⟩ = some (.int .i64 a0_13) ∧ W.cell? ⟨gb103, 6, none⟩ = some (.int .i64 a0_14) ∧ W.cell? ⟨gb103, 7, none⟩ = some (.int .i64 a0_15) ∧ W.cell? ⟨gb104, 0, none⟩ = some (.int .i64 a0_16) ∧ W.cell? ⟨gb104, 1, none⟩ = some (.int .i64 a0_17) ∧ W.cell? ⟨gb104, 2, none⟩ = some (.slice A0_18 l0_18.length c0_18) ∧ W.cell? ⟨gb104, 3, none⟩ = some (.slice A0_19 l0_19.length c0_19) ∧ W.cell? ⟨gb104, 4, none⟩ = some (.slice A0_20 l0_20.length c0_20) ∧ W.cell? ⟨gb104, 5, none⟩ = some (.int .i64 a0_21) ∧ W.cell? ⟨gb104, 6, none⟩ = some (.int .i64 a0_22) ∧ W.cell? ⟨gb104, 7, none⟩ = some (.int .i64 a0_23) from fun W hb => ⟨hb, QA.out W (below_step E14 hb)⟩)
  go_region_held3 (fun W => Below w14.heap.size w14 W ∧ W.cell? ⟨gb102, 0, none⟩ = some (.int .i64 a0_0) ∧ W.cell? ⟨gb102, 1, none⟩ = some (.int .i64 a0_1) ∧ W.cell? ⟨gb102, 2, none⟩ = some (.slice A0_2 l0_2.length c0_2) ∧ W.cell? ⟨gb102, 3, none⟩ = some (.slice A0_3 l0_3.length c0_3) ∧ W.cell? ⟨gb102, 4, none⟩ = some (.slice A0_4 l0_4.length c0_4) ∧ W.cell? ⟨gb102, 5, none⟩ = some (.int .i64 a0_5) ∧ W.cell? ⟨gb102, 6, none⟩ = some (.int .i64 a0_6) ∧ W.cell? ⟨gb102, 7, none⟩ = some (.int .i64 a0_7) ∧ W.cell? ⟨gb103, 0, none⟩ = some (.int .i64 a0_8) ∧ W.cell? ⟨gb103, 1, none⟩ = some (.int .i64 a0_9) ∧ W.cell? ⟨gb103, 2, none⟩ = some (.slice A0_10 l0_10.length c0_10) ∧ W.cell? ⟨gb103, 3, none⟩ = some (.slice A0_11 l0_11.length c0_11) ∧ W.cell? ⟨gb103, 4, none⟩ = some (.slice A0_12 l0_12.length c0_12) ∧ W.cell? ⟨gb103, 5, none⟩ = some (.int .i64 a0_13) ∧ W.cell? ⟨gb103, 6, none⟩ = some (.int .i64 a0_14) ∧ W.cell? ⟨gb103, 7, none⟩ = some (.int .i64 a0_15) ∧ W.cell? ⟨gb104, 0, none⟩ = some (.int .i64 a0_16) ∧ W.cell? ⟨gb104, 1, none⟩ = some (.int .i64 a0_17) ∧ W.cell? ⟨gb104, 2, none⟩ = some (.slice A0_18 l0_18.length c0_18) ∧ W.cell? ⟨gb104, 3, none⟩ = some (.slice A0_19 l0_19.length c0_19) ∧ W.cell? ⟨gb104, 4, none⟩ = some (.slice A0_20 l0_20.length c0_20) ∧ W.cell? ⟨gb104, 5, none⟩ = some (.int .i64 a0_21) ∧ W.cell? ⟨gb104, 6, none⟩ = some (.int .i64 a0_22) ∧ W.cell? ⟨gb104, 7, none⟩ = some (.int .i64 a0_23))
   (first | exact KEEP.out _ (by assumption) | exact KEEP.out _ (pw_below_drewN (by assumption) _) | exact KEEP.out _ (pw_below_drewN (And.left (by assumption)) _) | exact KEEP.out _ (below_drew (And.left (by assumption))) | exact KEEP.out _ (Below.refl _ _) | exact KEEP.out _ (below_drew (Below.refl _ _)))
   (first | (go_at_call 12; with_reducible refine (OF0.out _ (And.left (by assumption))).mono ?_; rintro e15 w15 ⟨v2, v3, v4, rfl, hv2, hv3, hv4, hb15⟩; obtain ⟨Aa0, ca0, ea⟩ := Kd.R_slice hv2; obtain ⟨Ab0, cb0, eb⟩ := Kd.R_slice hv3; obtain ⟨Ac0, cc0, ec⟩ := Kd.R_slice hv4; subst ea eb ec; have VA0 := Aside0.mk hv2; have VB0 := Aside0.mk hv3; have VC0 := Aside0.mk hv4; have E15 := below_step (And.left (by assumption) : Below w14.heap.size w14 _) hb15; clear hv2 hv3 hv4) | (go_at_call 11; with_reducible refine (header_Write.calls 3000 a0_0 a0_1 _ Aa0 ca0 l0_2 Ab0 cb0 l0_3 Ac0 cc0 l0_4 a0_5 a0_6 a0_7 (l0_24.length : Int) rw0 _ (Kd.R_V VA0.out) (Kd.R_reads' VB0.out).2.2 (Kd.R_reads' VB0.out).2.1 (Kd.R_reads' VC0.out).2.2 (Kd.R_reads' VC0.out).2.1 (TB.below HT.out (below_step B14.out E15)) ((write_f _ _ _ _ _ _ _ _ _ 3000 (by omega)).trans (congrArg some HRW0.out))).mono ?_; rintro e16 w16 ⟨v5, rfl, hv5, hb16⟩; obtain ⟨Ad0, cd0, ed⟩ := Kd.R_slice hv5; subst ed; have X0 := Aside0.mk hv5; have E16 := below_step E15 hb16; clear hv5) | (go_at_call 12; with_reducible refine (OF1.out _ (And.left (by assumption))).mono ?_; rintro e17 w17 ⟨v2, v3, v4, rfl, hv2, hv3, hv4, hb17⟩; obtain ⟨Aa1, ca1, ea⟩ := Kd.R_slice hv2; obtain ⟨Ab1, cb1, eb⟩ := Kd.R_slice hv3; obtain ⟨Ac1, cc1, ec⟩ := Kd.R_slice hv4; subst ea eb ec; have VA1 := Aside0.mk hv2; have VB1 := Aside0.mk hv3; have VC1 := Aside0.mk hv4; have E17 := below_step (And.left (by assumption) : Below w14.heap.size w14 _) hb17; clear hv2 hv3 hv4) | (go_at_call 11; with_reducible refine (header_Write.calls 3000 a0_8 a0_9 _ Aa1 ca1 l0_10 Ab1 cb1 l0_11 Ac1 cc1 l0_12 a0_13 a0_14 a0_15 (0 : Int) rw1 _ (Kd.R_V VA1.out) (Kd.R_reads' VB1.out).2.2 (Kd.R_reads' VB1.out).2.1 (Kd.R_reads' VC1.out).2.2 (Kd.R_reads' VC1.out).2.1 (TB.below HT.out (below_step B14.out E17)) ((write_f _ _ _ _ _ _ _ _ _ 3000 (by omega)).trans (congrArg some HRW1.out))).mono ?_; rintro e18 w18 ⟨v5, rfl, hv5, hb18⟩; obtain ⟨Ad1, cd1, ed⟩ := Kd.R_slice hv5; subst ed; have X1 := Aside0.mk hv5; have E18 := below_step E17 hb18; clear hv5) | (go_at_call 12; with_reducible refine (OF2.out _ (And.left (by assumption))).mono ?_; rintro e19 w19 ⟨v2, v3, v4, rfl, hv2, hv3, hv4, hb19⟩; obtain ⟨Aa2, ca2, ea⟩ := Kd.R_slice hv2; obtain ⟨Ab2, cb2, eb⟩ := Kd.R_slice hv3; obtain ⟨Ac2, cc2, ec⟩ := Kd.R_slice hv4; subst ea eb ec; have VA2 := Aside0.mk hv2; have VB2 := Aside0.mk hv3; have VC2 := Aside0.mk hv4; have E19 := below_step (And.left (by assumption) : Below w14.heap.size w14 _) hb19; clear hv2 hv3 hv4) | (go_at_call 11; with_reducible refine (header_Write.calls 3000 a0_16 a0_17 _ Aa2 ca2 l0_18 Ab2 cb2 l0_19 Ac2 cc2 l0_20 a0_21 a0_22 a0_23 (l0_24.length : Int) rw2 _ (Kd.R_V VA2.out) (Kd.R_reads' VB2.out).2.2 (Kd.R_reads' VB2.out).2.1 (Kd.R_reads' VC2.out).2.2 (Kd.R_reads' VC2.out).2.1 (TB.below HT.out (below_step B14.out E19)) ((write_f _ _ _ _ _ _ _ _ _ 3000 (by omega)).trans (congrArg some HRW2.out))).mono ?_; rintro e20 w20 ⟨v5, rfl, hv5, hb20⟩; obtain ⟨Ad2, cd2, ed⟩ := Kd.R_slice hv5; subst ed; have X2 := Aside0.mk hv5; have E20 := below_step E19 hb20; clear hv5))
  have B20 := Aside0.mk (below_step B14.out E20)
  have A20 := Aside0.mk (below_step E14 E20)
  have XC2 := Aside0.mk (Kd.R_reads' X2.out).2
  have XC1 := Aside0.mk (And.intro (Kd.R_reads' X1.out).2.1 (Kd.C_below (Kd.R_reads' X1.out).2.2 (below_step hb19 hb20)))
  have XC0 := Aside0.mk (And.intro (Kd.R_reads' X0.out).2.1 (Kd.C_below (Kd.R_reads' X0.out).2.2 (below_step (below_step (below_step hb17 hb18) hb19) hb20)))
  clear KEEP OF0 OF1 OF2 X0 X1 X2 VA0 VB0 VC0 VA1 VB1 VC1 VA2 VB2 VC2 E14 E15 E16 E17 E18 E19 E20 hb15 hb16 hb17 hb18 hb19 hb20 B8 B12 B13 B14 E12 E13 v0 v1 v2 v3 v4 v5 v6 v7 v8 v9 v10 v11 v12 v13 v14 v15 v16 v17 v18 v19 v20 v21 v22 v23
  by_cases hz0 : rw0 = []
  ·subst hz0
   simp only [List.length_nil]
   go_wp2_with (go_at_call 7; refine (AW _ B20.out).mono ?_; rintro e21 w21 ⟨rfl, hb21⟩; have B21 := Aside0.mk (below_step B20.out hb21); clear hb21)
   go_ret
   exact ⟨rfl, B21.out⟩
  have g0a : ((rw0.length : Int) == 0) = false := by simp; exact hz0
  have g0b : decide (rw0 = []) = false := decide_eq_false hz0
  have g0c : decide (rw0.length = 0) = false := by simp; exact hz0
  have HZ0 := Aside0.mk hz0
  clear hz0
  by_cases hz1 : rw1 = []
  ·subst hz1
   simp only [List.length_nil]
   go_wp2_with (go_at_call 7; refine (AW _ B20.out).mono ?_; rintro e21 w21 ⟨rfl, hb21⟩; have B21 := Aside0.mk (below_step B20.out hb21); clear hb21)
   go_ret
   exact ⟨rfl, B21.out⟩
  have g1a : ((rw1.length : Int) == 0) = false := by simp; exact hz1
  have g1b : decide (rw1 = []) = false := decide_eq_false hz1
  have g1c : decide (rw1.length = 0) = false := by simp; exact hz1
  have HZ1 := Aside0.mk hz1
  clear hz1
  by_cases hz2 : rw2 = []
  ·subst hz2
   simp only [List.length_nil]
   go_wp2_with (go_at_call 7; refine (AW _ B20.out).mono ?_; rintro e21 w21 ⟨rfl, hb21⟩; have B21 := Aside0.mk (below_step B20.out hb21); clear hb21)
   go_ret
   exact ⟨rfl, B21.out⟩
  have g2a : ((rw2.length : Int) == 0) = false := by simp; exact hz2
  have g2b : decide (rw2 = []) = false := decide_eq_false hz2
  have g2c : decide (rw2.length = 0) = false := by simp; exact hz2
  have HZ2 := Aside0.mk hz2
  clear hz2
  have HR0 := Aside0.mk (wrote HRW0.out HZ0.out)
  have HR1 := Aside0.mk (wrote HRW1.out HZ1.out)
  have HR2 := Aside0.mk (wrote HRW2.out HZ2.out)
  clear HRW0 HRW1 HRW2
  have HB0 := Aside0.mk (show Bt rw0 ∧ rw0.length ≤ 200 by rw [← HR0.out.2]; exact ⟨hbytes_bt HR0.out.1 HALL.out.1 HALL.out.2.1 HALL.out.2.2.1 (by omega), hbytes_len _ _ _ _ _ _ _ _ _ HR0.out.1⟩)
  have HB1 := Aside0.mk (show Bt rw1 ∧ rw1.length ≤ 200 by rw [← HR1.out.2]; exact ⟨hbytes_bt HR1.out.1 HALL.out.2.2.2.1 HALL.out.2.2.2.2.1 HALL.out.2.2.2.2.2.1 (by omega), hbytes_len _ _ _ _ _ _ _ _ _ HR1.out.1⟩)
  have HB2 := Aside0.mk (show Bt rw2 ∧ rw2.length ≤ 200 by rw [← HR2.out.2]; exact ⟨hbytes_bt HR2.out.1 HALL.out.2.2.2.2.2.2.1 HALL.out.2.2.2.2.2.2.2.1 HALL.out.2.2.2.2.2.2.2.2.1 (by omega), hbytes_len _ _ _ _ _ _ _ _ _ HR2.out.1⟩)
  have HBB := Aside0.mk (show Bt l0_24 from HALL.out.2.2.2.2.2.2.2.2.2)
  obtain ⟨m1, hm1⟩ : ∃ m, rw0 ++ l0_24 = m := ⟨_, rfl⟩
  obtain ⟨m2, hm2⟩ : ∃ m, m1 ++ rw1 = m := ⟨_, rfl⟩
  obtain ⟨m3, hm3⟩ : ∃ m, m2 ++ rw2 = m := ⟨_, rfl⟩
  obtain ⟨m4, hm4⟩ : ∃ m, m3 ++ l0_24 = m := ⟨_, rfl⟩
  have HM1 := Aside0.mk hm1
  have HM2 := Aside0.mk hm2
  have HM3 := Aside0.mk hm3
  have HM4 := Aside0.mk hm4
  have HML := Aside0.mk (show rw0.length ≤ 200 ∧ m1.length ≤ 500 ∧ m2.length ≤ 700 ∧ m3.length ≤ 900 ∧ m4.length ≤ 1200 by have h0 := HB0.out.2; have h1 := HB1.out.2; have h2 := HB2.out.2; have h3 := HLB.out; rw [← hm4, ← hm3, ← hm2, ← hm1]; simp only [List.length_append]; omega)
  have HMB := Aside0.mk (show Bt m4 by rw [← hm4, ← hm3, ← hm2, ← hm1]; exact bt_app (bt_app (bt_app (bt_app HB0.out.1 HBB.out) HB1.out.1) HB2.out.1) HBB.out)
  have SP := fun (W : World) (A : Option Addr) (cc : Nat) (hC : Kd.C (Kd.int .u8) W A m4.length m4) (hc : m4.length ≤ cc) => split_calls W A cc m4 hC hc (by have := HML.out; omega) HMB.out
  have hpk : pks (m4.length + 1) m4 = ([(((a0_0, a0_1, l0_2, l0_3, l0_4, a0_5, a0_6, a0_7), rw0, l0_24) : Pk), ((a0_8, a0_9, l0_10, l0_11, l0_12, a0_13, a0_14, a0_15), rw1, []), ((a0_16, a0_17, l0_18, l0_19, l0_20, a0_21, a0_22, a0_23), rw2, l0_24)], 0) := by
   rw [← hm4, ← hm3, ← hm2, ← hm1]
   exact pks_join HR0.out HR1.out HR2.out HK.out.1 HK.out.2 HLB.out HB0.out.2 HB1.out.2 HB2.out.2 HZ0.out HZ1.out HZ2.out _ (by have h0 := List.length_pos_iff.mpr HZ0.out; have h1 := List.length_pos_iff.mpr HZ1.out; have h2 := List.length_pos_iff.mpr HZ2.out; simp only [List.length_append]; omega)
  rw [hpk] at SP
  clear hm1 hm2 hm3 hm4 hpk
  have QB := Aside0.mk (show ∀ W, Below w20.heap.size w20 W → W.cell? ⟨gb102, 0, none⟩ = some (.int .i64 a0_0) ∧ W.cell? ⟨gb102, 1, none⟩ = some (.int .i64 a0_1) ∧ W.cell? ⟨gb102, 2, none⟩ = some (.slice A0_2 l0_2.length c0_2) ∧ W.cell? ⟨gb102, 3, none⟩ = some (.slice A0_3 l0_3.length c0_3) ∧ W.cell? ⟨gb102, 4, none⟩ = some (.slice A0_4 l0_4.length c0_4) ∧ W.cell? ⟨gb102, 5, none⟩ = some (.int .i64 a0_5) ∧ W.cell? ⟨gb102, 6, none⟩ = some (.int .i64 a0_6) ∧ W.cell? ⟨gb102, 7, none⟩ = some (.int .i64 a0_7) ∧ W.cell? ⟨gb103, 0, none⟩ = some (.int .i64 a0_8) ∧ W.cell? ⟨gb103, 1, none⟩ = some (.int .i64 a0_9) ∧ W.cell? ⟨gb103, 2, none⟩ = some (.slice A0_10 l0_10.length c0_10) ∧ W.cell? ⟨gb103, 3, none⟩ = some (.slice A0_11 l0_11.length c0_11) ∧ W.cell? ⟨gb103, 4, none⟩ = some (.slice A0_12 l0_12.length c0_12) ∧ W.cell? ⟨gb103, 5, none⟩ = some (.int .i64 a0_13) ∧ W.cell? ⟨gb103, 6, none⟩ = some (.int .i64 a0_14) ∧ W.cell? ⟨gb103, 7, none⟩ = some (.int .i64 a0_15) ∧ W.cell? ⟨gb104, 0, none⟩ = some (.int .i64 a0_16) ∧ W.cell? ⟨gb104, 1, none⟩ = some (.int .i64 a0_17) ∧ W.cell? ⟨gb104, 2, none⟩ = some (.slice A0_18 l0_18.length c0_18) ∧ W.cell? ⟨gb104, 3, none⟩ = some (.slice A0_19 l0_19.length c0_19) ∧ W.cell? ⟨gb104, 4, none⟩ = some (.slice A0_20 l0_20.length c0_20) ∧ W.cell? ⟨gb104, 5, none⟩ = some (.int .i64 a0_21) ∧ W.cell? ⟨gb104, 6, none⟩ = some (.int .i64 a0_22) ∧ W.cell? ⟨gb104, 7, none⟩ = some (.int .i64 a0_23) from fun W hb => QA.out W (below_step A20.out hb))
  clear QA
  go_upto_region 9 with (first | ((with_reducible refine gate_dst (N := 76) rfl ?_); refine Kd.R_lit (Kd.int .u8) w20.heap.size 5 ?hg (N := 76) ?hd (xs := ([] : List Int)) (inner := []) (ok := fun _ => True) (okp := fun _ => True) ?hr ?hp (fun _ hk => hk) trivial (Below.refl _ _) (Nat.le_refl _) (by simp) ?_; (case hd => rfl); (case hg => rfl); (case hr => first | (go_simp; done) | (go_simp; rfl)); (case hp => exact (Reps.none _ _)); intro v6 w21 ho6 hb6 hg_ hnew_; clear hg_ hnew_; have O21 := Aside0.mk ho6; have C21 := Aside0.mk hb6; clear ho6 hb6) | ((with_reducible refine gate_builtin (b := .append) (xs := #[.tmp 76, .tmp 77]) rfl ?_); at_builtin; refine Kd.R_append_rows (Kd.int .u8) (w0 := w20) w20.heap.size rfl (.tmp 76) (.tmp 77) 22 5 (.int .u8 0) 1 rfl Tryd.underlying22 Go.Proofs.YtpihkmpcnkhnfaaDoor.Hr.info5 rfl (by decide) (by omega) v6 ([] : List Int) rw0 _ _ _ (fun _ => True) (fun _ => False) rfl rfl ?aO ?aR (fun _ _ h => h) (fun _ h => h.elim) ?aF ?aB ?aS ?aL ?_; (case aR => exact Kd.C_below XC0.out.2 C21.out); (case aB => exact C21.out); (case aF => exact fun _ _ => trivial); (case aO => exact O21.out); (case aS => exact below_size C21.out); (case aL => have h1 := HML.out; have h2 := HB1.out; have h3 := HB2.out; have h4 := HLB.out; simp; omega); intro v7 w22 ho7 hb7 hg7 hat7; clear hg7 hat7; rw [List.nil_append] at ho7; have O22 := Aside0.mk ho7; have C22 := Aside0.mk hb7; clear ho7 hb7) | ((with_reducible refine gate_builtin (b := .append) (xs := #[.tmp 78, .tmp 79]) rfl ?_); at_builtin; refine Kd.R_append_rows (Kd.int .u8) (w0 := w20) w20.heap.size rfl (.tmp 78) (.tmp 79) 22 5 (.int .u8 0) 1 rfl Tryd.underlying22 Go.Proofs.YtpihkmpcnkhnfaaDoor.Hr.info5 rfl (by decide) (by omega) v7 rw0 l0_24 _ _ _ (fun _ => True) (fun _ => False) rfl rfl ?aO ?aR (fun _ _ h => h) (fun _ h => h.elim) ?aF ?aB ?aS ?aL ?_; (case aR => exact Kd.C_below HR0_24.out (below_step B20.out C22.out)); (case aB => exact C22.out); (case aF => exact fun _ _ => trivial); (case aO => exact O22.out); (case aS => exact below_size C22.out); (case aL => have h1 := HML.out; have h2 := HB1.out; have h3 := HB2.out; have h4 := HLB.out; simp; omega); intro v8 w23 ho7 hb7 hg7 hat7; clear hg7 hat7; rw [HM1.out] at ho7; have O23 := Aside0.mk ho7; have C23 := Aside0.mk hb7; clear ho7 hb7) | ((with_reducible refine gate_builtin (b := .append) (xs := #[.tmp 80, .tmp 81]) rfl ?_); at_builtin; refine Kd.R_append_rows (Kd.int .u8) (w0 := w20) w20.heap.size rfl (.tmp 80) (.tmp 81) 22 5 (.int .u8 0) 1 rfl Tryd.underlying22 Go.Proofs.YtpihkmpcnkhnfaaDoor.Hr.info5 rfl (by decide) (by omega) v8 m1 rw1 _ _ _ (fun _ => True) (fun _ => False) rfl rfl ?aO ?aR (fun _ _ h => h) (fun _ h => h.elim) ?aF ?aB ?aS ?aL ?_; (case aR => exact Kd.C_below XC1.out.2 C23.out); (case aB => exact C23.out); (case aF => exact fun _ _ => trivial); (case aO => exact O23.out); (case aS => exact below_size C23.out); (case aL => have h1 := HML.out; have h2 := HB1.out; have h3 := HB2.out; have h4 := HLB.out; simp; omega); intro v9 w24 ho7 hb7 hg7 hat7; clear hg7 hat7; rw [HM2.out] at ho7; have O24 := Aside0.mk ho7; have C24 := Aside0.mk hb7; clear ho7 hb7) | ((with_reducible refine gate_builtin (b := .append) (xs := #[.tmp 82, .tmp 83]) rfl ?_); at_builtin; refine Kd.R_append_rows (Kd.int .u8) (w0 := w20) w20.heap.size rfl (.tmp 82) (.tmp 83) 22 5 (.int .u8 0) 1 rfl Tryd.underlying22 Go.Proofs.YtpihkmpcnkhnfaaDoor.Hr.info5 rfl (by decide) (by omega) v9 m2 rw2 _ _ _ (fun _ => True) (fun _ => False) rfl rfl ?aO ?aR (fun _ _ h => h) (fun _ h => h.elim) ?aF ?aB ?aS ?aL ?_; (case aR => exact Kd.C_below XC2.out.2 C24.out); (case aB => exact C24.out); (case aF => exact fun _ _ => trivial); (case aO => exact O24.out); (case aS => exact below_size C24.out); (case aL => have h1 := HML.out; have h2 := HB1.out; have h3 := HB2.out; have h4 := HLB.out; simp; omega); intro v10 w25 ho7 hb7 hg7 hat7; clear hg7 hat7; rw [HM3.out] at ho7; obtain ⟨A25, c25, e7⟩ := Kd.R_slice ho7; subst e7; have O25 := Aside0.mk ho7; have C25 := Aside0.mk hb7; clear ho7 hb7) | ((with_reducible refine gate_builtin (b := .append) (xs := #[.tmp 86, .tmp 87]) rfl ?_); at_builtin; refine Kd.R_append_rows (Kd.int .u8) (w0 := w20) w20.heap.size rfl (.tmp 86) (.tmp 87) 22 5 (.int .u8 0) 1 rfl Tryd.underlying22 Go.Proofs.YtpihkmpcnkhnfaaDoor.Hr.info5 rfl (by decide) (by omega) _ m3 l0_24 _ _ _ (fun _ => True) (fun _ => False) rfl rfl ?aO ?aR (fun _ _ h => h) (fun _ h => h.elim) ?aF ?aB ?aS ?aL ?_; (case aR => exact Kd.C_below HR0_24.out (below_step B20.out C25.out)); (case aB => exact C25.out); (case aF => exact fun _ _ => trivial); (case aO => exact O25.out); (case aS => exact below_size C25.out); (case aL => have h1 := HML.out; have h2 := HB1.out; have h3 := HB2.out; have h4 := HLB.out; simp; omega); intro v11 w26 ho7 hb7 hg7 hat7; clear hg7 hat7; rw [HM4.out] at ho7; obtain ⟨A26, c26, e7⟩ := Kd.R_slice ho7; subst e7; have O26 := Aside0.mk ho7; have C26 := Aside0.mk hb7; clear ho7 hb7) | (go_at_call 5; refine (SP _ _ _ (Kd.R_reads' O26.out).2.2 (Kd.R_reads' O26.out).2.1).mono ?_; rintro e30 w30 ⟨hb30, v8_, rfl, hS8⟩; obtain ⟨A8, c8, e8⟩ := Kd.R_slice (Kd.S_R hS8); obtain ⟨n8, hn8⟩ : ∃ n8, List.length [(((a0_0, a0_1, l0_2, l0_3, l0_4, a0_5, a0_6, a0_7), rw0, l0_24) : Pk), ((a0_8, a0_9, l0_10, l0_11, l0_12, a0_13, a0_14, a0_15), rw1, []), ((a0_16, a0_17, l0_18, l0_19, l0_20, a0_21, a0_22, a0_23), rw2, l0_24)] = n8 := ⟨_, rfl⟩; rw [hn8] at e8; subst e8; have S8 := Aside0.mk hS8; have N8 := Aside0.mk hn8; have C30 := Aside0.mk (below_step C26.out hb30); clear hb30 hS8 hn8))
  clear SP
  obtain rfl : n8 = 3 := N8.out.symm
  obtain ⟨g0, c9_0, P2_0, p2_0, P3_0, p3_0, P4_0, p4_0, Ph_0, ph_0, Pb_0, pb_0, e9_0, hat0, r2_0, r3_0, r4_0, rh_0, rb_0⟩ := pk_at S8.out 0 (by simp) (((a0_0, a0_1, l0_2, l0_3, l0_4, a0_5, a0_6, a0_7), rw0, l0_24) : Pk) rfl
  obtain ⟨g1, c9_1, P2_1, p2_1, P3_1, p3_1, P4_1, p4_1, Ph_1, ph_1, Pb_1, pb_1, e9_1, hat1, r2_1, r3_1, r4_1, rh_1, rb_1⟩ := pk_at S8.out 1 (by simp) (((a0_8, a0_9, l0_10, l0_11, l0_12, a0_13, a0_14, a0_15), rw1, []) : Pk) rfl
  obtain ⟨g2, c9_2, P2_2, p2_2, P3_2, p3_2, P4_2, p4_2, Ph_2, ph_2, Pb_2, pb_2, e9_2, hat2, r2_2, r3_2, r4_2, rh_2, rb_2⟩ := pk_at S8.out 2 (by simp) (((a0_16, a0_17, l0_18, l0_19, l0_20, a0_21, a0_22, a0_23), rw2, l0_24) : Pk) rfl
  injection e9_0 with q0 q1 q2
  injection e9_1 with q3 q4 q5
  injection e9_2 with q6 q7 q8
  subst q0
  injection q3 with q3
  injection q3 with q3
  injection q6 with q6
  injection q6 with q6
  subst q3 q6
  clear q1 q2 q4 q5 q7 q8
  have x0_0 : w30.cell? ⟨g0, 0, none⟩ = some (.int .i64 a0_0) := hat0 0 _ rfl
  have x0_1 : w30.cell? ⟨g0, 1, none⟩ = some (.int .i64 a0_1) := hat0 1 _ rfl
  have x0_2 : w30.cell? ⟨g0, 2, none⟩ = some (.slice P2_0 l0_2.length p2_0) := hat0 2 _ rfl
  have x0_3 : w30.cell? ⟨g0, 3, none⟩ = some (.slice P3_0 l0_3.length p3_0) := hat0 3 _ rfl
  have x0_4 : w30.cell? ⟨g0, 4, none⟩ = some (.slice P4_0 l0_4.length p4_0) := hat0 4 _ rfl
  have x0_5 : w30.cell? ⟨g0, 5, none⟩ = some (.int .i64 a0_5) := hat0 5 _ rfl
  have x0_6 : w30.cell? ⟨g0, 6, none⟩ = some (.int .i64 a0_6) := hat0 6 _ rfl
  have x0_7 : w30.cell? ⟨g0, 7, none⟩ = some (.int .i64 a0_7) := hat0 7 _ rfl
  have x0_9 : w30.cell? ⟨g0, 9, none⟩ = some (.slice Pb_0 l0_24.length pb_0) := hat0 9 _ rfl
  have x1_0 : w30.cell? ⟨g0, 10, none⟩ = some (.int .i64 a0_8) := hat1 0 _ rfl
  have x1_1 : w30.cell? ⟨g0, 11, none⟩ = some (.int .i64 a0_9) := hat1 1 _ rfl
  have x1_2 : w30.cell? ⟨g0, 12, none⟩ = some (.slice P2_1 l0_10.length p2_1) := hat1 2 _ rfl
  have x1_3 : w30.cell? ⟨g0, 13, none⟩ = some (.slice P3_1 l0_11.length p3_1) := hat1 3 _ rfl
  have x1_4 : w30.cell? ⟨g0, 14, none⟩ = some (.slice P4_1 l0_12.length p4_1) := hat1 4 _ rfl
  have x1_5 : w30.cell? ⟨g0, 15, none⟩ = some (.int .i64 a0_13) := hat1 5 _ rfl
  have x1_6 : w30.cell? ⟨g0, 16, none⟩ = some (.int .i64 a0_14) := hat1 6 _ rfl
  have x1_7 : w30.cell? ⟨g0, 17, none⟩ = some (.int .i64 a0_15) := hat1 7 _ rfl
  have x1_8 : w30.cell? ⟨g0, 18, none⟩ = some (.slice Ph_1 rw1.length ph_1) := hat1 8 _ rfl
  have x1_9 : w30.cell? ⟨g0, 19, none⟩ = some (.slice Pb_1 0 pb_1) := hat1 9 _ rfl
  have x2_0 : w30.cell? ⟨g0, 20, none⟩ = some (.int .i64 a0_16) := hat2 0 _ rfl
  have x2_1 : w30.cell? ⟨g0, 21, none⟩ = some (.int .i64 a0_17) := hat2 1 _ rfl
  have x2_2 : w30.cell? ⟨g0, 22, none⟩ = some (.slice P2_2 l0_18.length p2_2) := hat2 2 _ rfl
  have x2_3 : w30.cell? ⟨g0, 23, none⟩ = some (.slice P3_2 l0_19.length p3_2) := hat2 3 _ rfl
  have x2_4 : w30.cell? ⟨g0, 24, none⟩ = some (.slice P4_2 l0_20.length p4_2) := hat2 4 _ rfl
  have x2_5 : w30.cell? ⟨g0, 25, none⟩ = some (.int .i64 a0_21) := hat2 5 _ rfl
  have x2_6 : w30.cell? ⟨g0, 26, none⟩ = some (.int .i64 a0_22) := hat2 6 _ rfl
  have x2_7 : w30.cell? ⟨g0, 27, none⟩ = some (.int .i64 a0_23) := hat2 7 _ rfl
  have x2_9 : w30.cell? ⟨g0, 29, none⟩ = some (.slice Pb_2 l0_24.length pb_2) := hat2 9 _ rfl
  have KEEP := Aside0.mk (show ∀ W, Below w30.heap.size w30 W → Below w30.heap.size w30 W ∧ W.cell? ⟨g0, 0, none⟩ = some (.int .i64 a0_0) ∧ W.cell? ⟨g0, 1, none⟩ = some (.int .i64 a0_1) ∧ W.cell? ⟨g0, 2, none⟩ = some (.slice P2_0 l0_2.length p2_0) ∧ W.cell? ⟨g0, 3, none⟩ = some (.slice P3_0 l0_3.length p3_0) ∧ W.cell? ⟨g0, 4, none⟩ = some (.slice P4_0 l0_4.length p4_0) ∧ W.cell? ⟨g0, 5, none⟩ = some (.int .i64 a0_5) ∧ W.cell? ⟨g0, 6, none⟩ = some (.int .i64 a0_6) ∧ W.cell? ⟨g0, 7, none⟩ = some (.int .i64 a0_7) ∧ W.cell? ⟨g0, 9, none⟩ = some (.slice Pb_0 l0_24.length pb_0) ∧ W.cell? ⟨g0, 10, none⟩ = some (.int .i64 a0_8) ∧ W.cell? ⟨g0, 11, none⟩ = some (.int .i64 a0_9) ∧ W.cell? ⟨g0, 12, none⟩ = some (.slice P2_1 l0_10.length p2_1) ∧ W.cell? ⟨g0, 13, none⟩ = some (.slice P3_1 l0_11.length p3_1) ∧ W.cell? ⟨g0, 14, none⟩ = some (.slice P4_1 l0_12.length p4_1) ∧ W.cell? ⟨g0, 15, none⟩ = some (.int .i64 a0_13) ∧ W.cell? ⟨g0, 16, none⟩ = some (.int .i64 a0_14) ∧ W.cell? ⟨g0, 17, none⟩ = some (.int .i64 a0_15) ∧ W.cell? ⟨g0, 18, none⟩ = some (.slice Ph_1 rw1.length ph_1) ∧ W.cell? ⟨g0, 19, none⟩ = some (.slice Pb_1 0 pb_1) ∧ W.cell? ⟨g0, 20, none⟩ = some (.int .i64 a0_16) ∧ W.cell? ⟨g0, 21, none⟩ = some (.int .i64 a0_17) ∧ W.cell? ⟨g0, 22, none⟩ = some (.slice P2_2 l0_18.length p2_2) ∧ W.cell? ⟨g0, 23, none⟩ = some (.slice P3_2 l0_19.length p3_2) ∧ W.cell? ⟨g0, 24, none⟩ = some (.slice P4_2 l0_20.length p4_2) ∧ W.cell? ⟨g0, 25, none⟩ = some (.int .i64 a0_21) ∧ W.cell? ⟨g0, 26, none⟩ = some (.int .i64 a0_22) ∧ W.cell? ⟨g0, 27, none⟩ = some (.int .i64 a0_23) ∧ W.cell? ⟨g0, 29, none⟩ = some (.slice Pb_2 l0_24.length pb_2) ∧ W.cell? ⟨gb102, 0, none⟩ = some (.int .i64 a0_0) ∧ W.cell? ⟨gb102, 1, none⟩ = some (.int .i64 a0_1) ∧ W.cell? ⟨gb102, 2, none⟩ = some (.slice A0_2 l0_2.length c0_2) ∧ W.cell? ⟨gb102, 3, none⟩ = some (.slice A0_3 l0_3.length c0_3) ∧ W.cell? ⟨gb102, 4, none⟩ = some (.slice A0_4 l0_4.length c0_4) ∧ W.cell? ⟨gb102, 5, none⟩ = some (.int .i64 a0_5) ∧ W.cell? ⟨gb102, 6, none⟩ = some (.int .i64 a0_6) ∧ W.cell? ⟨gb102, 7, none⟩ = some (.int .i64 a0_7) ∧ W.cell? ⟨gb103, 0, none⟩ = some (.int .i64 a0_8) ∧ W.cell? ⟨gb103, 1, none⟩ = some (.int .i64 a0_9) ∧ W.cell? ⟨gb103, 2, none⟩ = some (.slice A0_10 l0_10.length c0_10) ∧ W.cell? ⟨gb103, 3, none⟩ = some (.slice A0_11 l0_11.length c0_11) ∧ W.cell? ⟨gb103, 4, none⟩ = some (.slice A0_12 l0_12.length c0_12) ∧ W.cell? ⟨gb103, 5, none⟩ = some (.int .i64 a0_13) ∧ W.cell? ⟨gb103, 6, none⟩ = some (.int .i64 a0_14) ∧ W.cell? ⟨gb103, 7, none⟩ = some (.int .i64 a0_15) ∧ W.cell? ⟨gb104, 0, none⟩ = some (.int .i64 a0_16) ∧ W.cell? ⟨gb104, 1, none⟩ = some (.int .i64 a0_17) ∧ W.cell? ⟨gb104, 2, none⟩ = some (.slice A0_18 l0_18.length c0_18) ∧ W.cell? ⟨gb104, 3, none⟩ = some (.slice A0_19 l0_19.length c0_19) ∧ W.cell? ⟨gb104, 4, none⟩ = some (.slice A0_20 l0_20.length c0_20) ∧ W.cell? ⟨gb104, 5, none⟩ = some (.int .i64 a0_21) ∧ W.cell? ⟨gb104, 6, none⟩ = some (.int .i64 a0_22) ∧ W.cell? ⟨gb104, 7, none⟩ = some (.int .i64 a0_23) from fun W hb => ⟨hb, pw_cell_below hb x0_0, pw_cell_below hb x0_1, pw_cell_below hb x0_2, pw_cell_below hb x0_3, pw_cell_below hb x0_4, pw_cell_below hb x0_5, pw_cell_below hb x0_6, pw_cell_below hb x0_7, pw_cell_below hb x0_9, pw_cell_below hb x1_0, pw_cell_below hb x1_1, pw_cell_below hb x1_2, pw_cell_below hb x1_3, pw_cell_below hb x1_4, pw_cell_below hb x1_5, pw_cell_below hb x1_6, pw_cell_below hb x1_7, pw_cell_below hb x1_8, pw_cell_below hb x1_9, pw_cell_below hb x2_0, pw_cell_below hb x2_1, pw_cell_below hb x2_2, pw_cell_below hb x2_3, pw_cell_below hb x2_4, pw_cell_below hb x2_5, pw_cell_below hb x2_6, pw_cell_below hb x2_7, pw_cell_below hb x2_9, QB.out W (below_step C30.out hb)⟩)
  clear hat0 hat1 hat2 x0_0 x0_1 x0_2 x0_3 x0_4 x0_5 x0_6 x0_7 x0_9 x1_0 x1_1 x1_2 x1_3 x1_4 x1_5 x1_6 x1_7 x1_8 x1_9 x2_0 x2_1 x2_2 x2_3 x2_4 x2_5 x2_6 x2_7 x2_9
  have RT0 := Aside0.mk (And.intro r2_0 (And.intro r3_0 r4_0))
  have RB0 := Aside0.mk rb_0
  have RT1 := Aside0.mk (And.intro r2_1 (And.intro r3_1 r4_1))
  have RB1 := Aside0.mk rb_1
  have RT2 := Aside0.mk (And.intro r2_2 (And.intro r3_2 r4_2))
  have RB2 := Aside0.mk rb_2
  have RH1 := Aside0.mk rh_1
  clear r2_0 r3_0 r4_0 rh_0 rb_0 r2_1 r3_1 r4_1 rh_1 rb_1 r2_2 r3_2 r4_2 rh_2 rb_2
  have B30 := Aside0.mk (below_step B20.out C30.out)
  have TD0 := Aside0.mk (fun (W : World) (hb : Below w30.heap.size w30 W) => shibbolethlaw05_told.calls 3000 a0_0 a0_1 P2_0 p2_0 l0_2 P3_0 p3_0 l0_3 P4_0 p4_0 l0_4 a0_5 a0_6 a0_7 a0_0 a0_1 A0_2 c0_2 l0_2 A0_3 c0_3 l0_3 A0_4 c0_4 l0_4 a0_5 a0_6 a0_7 true W (Kd.C_below RT0.out.1.2 hb) RT0.out.1.1 (Kd.C_below RT0.out.2.1.2 hb) RT0.out.2.1.1 (Kd.C_below RT0.out.2.2.2 hb) RT0.out.2.2.1 (Kd.C_below HR0_2.out (below_step B30.out hb)) HC0_2.out (Kd.C_below HR0_3.out (below_step B30.out hb)) HC0_3.out (Kd.C_below HR0_4.out (below_step B30.out hb)) HC0_4.out (told_f _ _ _ _ _ _ _ _ (by have := HLEN0.out; omega) (by have := HLEN0.out; omega) (by have := HLEN0.out; omega)))
  have TD1 := Aside0.mk (fun (W : World) (hb : Below w30.heap.size w30 W) => shibbolethlaw05_told.calls 3000 a0_8 a0_9 P2_1 p2_1 l0_10 P3_1 p3_1 l0_11 P4_1 p4_1 l0_12 a0_13 a0_14 a0_15 a0_8 a0_9 A0_10 c0_10 l0_10 A0_11 c0_11 l0_11 A0_12 c0_12 l0_12 a0_13 a0_14 a0_15 true W (Kd.C_below RT1.out.1.2 hb) RT1.out.1.1 (Kd.C_below RT1.out.2.1.2 hb) RT1.out.2.1.1 (Kd.C_below RT1.out.2.2.2 hb) RT1.out.2.2.1 (Kd.C_below HR0_10.out (below_step B30.out hb)) HC0_10.out (Kd.C_below HR0_11.out (below_step B30.out hb)) HC0_11.out (Kd.C_below HR0_12.out (below_step B30.out hb)) HC0_12.out (told_f _ _ _ _ _ _ _ _ (by have := HLEN1.out; omega) (by have := HLEN1.out; omega) (by have := HLEN1.out; omega)))
  have TD2 := Aside0.mk (fun (W : World) (hb : Below w30.heap.size w30 W) => shibbolethlaw05_told.calls 3000 a0_16 a0_17 P2_2 p2_2 l0_18 P3_2 p3_2 l0_19 P4_2 p4_2 l0_20 a0_21 a0_22 a0_23 a0_16 a0_17 A0_18 c0_18 l0_18 A0_19 c0_19 l0_19 A0_20 c0_20 l0_20 a0_21 a0_22 a0_23 true W (Kd.C_below RT2.out.1.2 hb) RT2.out.1.1 (Kd.C_below RT2.out.2.1.2 hb) RT2.out.2.1.1 (Kd.C_below RT2.out.2.2.2 hb) RT2.out.2.2.1 (Kd.C_below HR0_18.out (below_step B30.out hb)) HC0_18.out (Kd.C_below HR0_19.out (below_step B30.out hb)) HC0_19.out (Kd.C_below HR0_20.out (below_step B30.out hb)) HC0_20.out (told_f _ _ _ _ _ _ _ _ (by have := HLEN2.out; omega) (by have := HLEN2.out; omega) (by have := HLEN2.out; omega)))
  have SB0 := Aside0.mk (fun (W : World) (hb : Below w30.heap.size w30 W) => shibbolethlaw05_same.calls 3000 Pb_0 pb_0 l0_24 A0_24 c0_24 l0_24 true W (Kd.C_below RB0.out.2 hb) RB0.out.1 (Kd.C_below HR0_24.out (below_step B30.out hb)) HC0_24.out (same_f l0_24 (by have := HLB.out; omega) 3000 (by have := HLB.out; omega)))
  have SB2 := Aside0.mk (fun (W : World) (hb : Below w30.heap.size w30 W) => shibbolethlaw05_same.calls 3000 Pb_2 pb_2 l0_24 A0_24 c0_24 l0_24 true W (Kd.C_below RB2.out.2 hb) RB2.out.1 (Kd.C_below HR0_24.out (below_step B30.out hb)) HC0_24.out (same_f l0_24 (by have := HLB.out; omega) 3000 (by have := HLB.out; omega)))
  have SH1 := Aside0.mk (fun (W : World) (hb : Below w30.heap.size w30 W) => shibbolethlaw05_same.calls 3000 Ph_1 ph_1 rw1 Ad1 cd1 rw1 true W (Kd.C_below RH1.out.2 hb) RH1.out.1 (Kd.C_below XC1.out.2 (below_step C30.out hb)) XC1.out.1 (same_f rw1 (by have := HB1.out.2; omega) 3000 (by have := HB1.out.2; omega)))
  have AW9 := Aside0.mk (fun (W : World) (hb : Below w30.heap.size w30 W) => AW W (below_step B30.out hb))
  clear AW QB S8 RT0 RT1 RT2 RB0 RB1 RB2 RH1
  have hfm : Tryd.prog.follows .mixedOrders = true := by kernel_rfl
  simp only [List.append_eq, List.cons_append, List.nil_append]
  go_region_held3 (fun W => Below w30.heap.size w30 W ∧ W.cell? ⟨g0, 0, none⟩ = some (.int .i64 a0_0) ∧ W.cell? ⟨g0, 1, none⟩ = some (.int .i64 a0_1) ∧ W.cell? ⟨g0, 2, none⟩ = some (.slice P2_0 l0_2.length p2_0) ∧ W.cell? ⟨g0, 3, none⟩ = some (.slice P3_0 l0_3.length p3_0) ∧ W.cell? ⟨g0, 4, none⟩ = some (.slice P4_0 l0_4.length p4_0) ∧ W.cell? ⟨g0, 5, none⟩ = some (.int .i64 a0_5) ∧ W.cell? ⟨g0, 6, none⟩ = some (.int .i64 a0_6) ∧ W.cell? ⟨g0, 7, none⟩ = some (.int .i64 a0_7) ∧ W.cell? ⟨g0, 9, none⟩ = some (.slice Pb_0 l0_24.length pb_0) ∧ W.cell? ⟨g0, 10, none⟩ = some (.int .i64 a0_8) ∧ W.cell? ⟨g0, 11, none⟩ = some (.int .i64 a0_9) ∧ W.cell? ⟨g0, 12, none⟩ = some (.slice P2_1 l0_10.length p2_1) ∧ W.cell? ⟨g0, 13, none⟩ = some (.slice P3_1 l0_11.length p3_1) ∧ W.cell? ⟨g0, 14, none⟩ = some (.slice P4_1 l0_12.length p4_1) ∧ W.cell? ⟨g0, 15, none⟩ = some (.int .i64 a0_13) ∧ W.cell? ⟨g0, 16, none⟩ = some (.int .i64 a0_14) ∧ W.cell? ⟨g0, 17, none⟩ = some (.int .i64 a0_15) ∧ W.cell? ⟨g0, 18, none⟩ = some (.slice Ph_1 rw1.length ph_1) ∧ W.cell? ⟨g0, 19, none⟩ = some (.slice Pb_1 0 pb_1) ∧ W.cell? ⟨g0, 20, none⟩ = some (.int .i64 a0_16) ∧ W.cell? ⟨g0, 21, none⟩ = some (.int .i64 a0_17) ∧ W.cell? ⟨g0, 22, none⟩ = some (.slice P2_2 l0_18.length p2_2) ∧ W.cell? ⟨g0, 23, none⟩ = some (.slice P3_2 l0_19.length p3_2) ∧ W.cell? ⟨g0, 24, none⟩ = some (.slice P4_2 l0_20.length p4_2) ∧ W.cell? ⟨g0, 25, none⟩ = some (.int .i64 a0_21) ∧ W.cell? ⟨g0, 26, none⟩ = some (.int .i64 a0_22) ∧ W.cell? ⟨g0, 27, none⟩ = some (.int .i64 a0_23) ∧ W.cell? ⟨g0, 29, none⟩ = some (.slice Pb_2 l0_24.length pb_2) ∧ W.cell? ⟨gb102, 0, none⟩ = some (.int .i64 a0_0) ∧ W.cell? ⟨gb102, 1, none⟩ = some (.int .i64 a0_1) ∧ W.cell? ⟨gb102, 2, none⟩ = some (.slice A0_2 l0_2.length c0_2) ∧ W.cell? ⟨gb102, 3, none⟩ = some (.slice A0_3 l0_3.length c0_3) ∧ W.cell? ⟨gb102, 4, none⟩ = some (.slice A0_4 l0_4.length c0_4) ∧ W.cell? ⟨gb102, 5, none⟩ = some (.int .i64 a0_5) ∧ W.cell? ⟨gb102, 6, none⟩ = some (.int .i64 a0_6) ∧ W.cell? ⟨gb102, 7, none⟩ = some (.int .i64 a0_7) ∧ W.cell? ⟨gb103, 0, none⟩ = some (.int .i64 a0_8) ∧ W.cell? ⟨gb103, 1, none⟩ = some (.int .i64 a0_9) ∧ W.cell? ⟨gb103, 2, none⟩ = some (.slice A0_10 l0_10.length c0_10) ∧ W.cell? ⟨gb103, 3, none⟩ = some (.slice A0_11 l0_11.length c0_11) ∧ W.cell? ⟨gb103, 4, none⟩ = some (.slice A0_12 l0_12.length c0_12) ∧ W.cell? ⟨gb103, 5, none⟩ = some (.int .i64 a0_13) ∧ W.cell? ⟨gb103, 6, none⟩ = some (.int .i64 a0_14) ∧ W.cell? ⟨gb103, 7, none⟩ = some (.int .i64 a0_15) ∧ W.cell? ⟨gb104, 0, none⟩ = some (.int .i64 a0_16) ∧ W.cell? ⟨gb104, 1, none⟩ = some (.int .i64 a0_17) ∧ W.cell? ⟨gb104, 2, none⟩ = some (.slice A0_18 l0_18.length c0_18) ∧ W.cell? ⟨gb104, 3, none⟩ = some (.slice A0_19 l0_19.length c0_19) ∧ W.cell? ⟨gb104, 4, none⟩ = some (.slice A0_20 l0_20.length c0_20) ∧ W.cell? ⟨gb104, 5, none⟩ = some (.int .i64 a0_21) ∧ W.cell? ⟨gb104, 6, none⟩ = some (.int .i64 a0_22) ∧ W.cell? ⟨gb104, 7, none⟩ = some (.int .i64 a0_23))
   (first | exact KEEP.out _ (by assumption) | exact KEEP.out _ (pw_below_drewN (by assumption) _) | exact KEEP.out _ (pw_below_drewN (And.left (by assumption)) _) | exact KEEP.out _ (below_drew (And.left (by assumption))) | exact KEEP.out _ (Below.refl _ _) | exact KEEP.out _ (below_drew (Below.refl _ _)))
   (first | (go_at_call 8; with_reducible refine (TD0.out _ (And.left (by assumption))).mono ?_; rintro e31 w31 ⟨rfl, hb31⟩; have E31 := below_step (And.left (by assumption) : Below w30.heap.size w30 _) hb31; clear hb31) | (go_at_call 8; with_reducible refine (TD1.out _ (And.left (by assumption))).mono ?_; rintro e32 w32 ⟨rfl, hb32⟩; have E32 := below_step (And.left (by assumption) : Below w30.heap.size w30 _) hb32; clear hb32) | (go_at_call 8; with_reducible refine (TD2.out _ (And.left (by assumption))).mono ?_; rintro e33 w33 ⟨rfl, hb33⟩; have E33 := below_step (And.left (by assumption) : Below w30.heap.size w30 _) hb33; clear hb33) | (go_at_call 9; with_reducible refine (SB0.out _ (And.left (by assumption))).mono ?_; rintro e41 w41 ⟨rfl, ⟨n41, rfl⟩⟩) | (go_at_call 9; with_reducible refine (SB2.out _ (And.left (by assumption))).mono ?_; rintro e42 w42 ⟨rfl, ⟨n42, rfl⟩⟩) | (go_at_call 9; with_reducible refine (SH1.out _ (And.left (by assumption))).mono ?_; rintro e43 w43 ⟨rfl, ⟨n43, rfl⟩⟩) | (go_at_call 7; with_reducible refine (AW9.out _ (And.left (by assumption))).mono ?_; rintro e44 w44 ⟨rfl, hb44⟩; have E44 := below_step (And.left (by assumption) : Below w30.heap.size w30 _) hb44; clear hb44))
  go_wp2
  go_ret
  exact ⟨rfl, below_step B30.out E44⟩
end Go.Proofs.YtpihkmpcnkhnfaaDoor.QHj
