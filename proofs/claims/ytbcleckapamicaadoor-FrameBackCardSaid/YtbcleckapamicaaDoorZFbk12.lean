/- A part of the proof of the law FrameBack: Fd7, Fd8, Fd9. -/
import Derived.Test.YtbcleckapamicaaDoorZFbk11
import Derived.RangeFuncBox
import Derived.Recover
import Derived.Defers
namespace Go.Proofs.YtbcleckapamicaaDoor.Fd
open Go Go.RowKit Go.Proofs.YtbcleckapamicaaDoorW.PrintWords Go.Proofs.YtbcleckapamicaaDoorW.PrintLast Go.Proofs.YtbcleckapamicaaDoorW.PrintMore
open Go.Proofs.YtbcleckapamicaaDoor.QFr (S58 S103 k58 k103 frame_Right.calls)
open Go.Proofs.YtbcleckapamicaaDoor.Onl (Only)
open Go.Proofs.YtbcleckapamicaaDoor.Vn (vread vsize num)
set_option linter.unusedVariables false
set_option linter.unusedSimpArgs false
set_option maxHeartbeats 2000000 in
set_option maxRecDepth 100000 in
theorem next_token {w0 w : World} {rb : Nat} {t : List Int} (h : Rdx w0 w rb (7 :: t)) :
    Calls Tryd.prog 80 #[.pointer (some ⟨rb, 0, none⟩)] w (FrmP w0 w rb (next (7 :: t))) := by
  have hmf : ∀ (fn : Fn) (first cap : Array Value) (w : World), (Instr.makeFunc fn first cap).run Tryd.prog w = .ok (.func fn first cap) w := fun _ _ _ _ => rfl
  have hmm := @run_makeMap Tryd.prog
  have TB := Tbl.mk' w rb
  have i0 := TB.i0
  have i1 := TB.i1
  have i2 := TB.i2
  have i3 := TB.i3
  have i4 := TB.i4
  have i5 := TB.i5
  have i6 := TB.i6
  have i7 := TB.i7
  clear TB
  have hb2 : Below w.heap.size w ((w.alloc (.cells #[.int .i64 0, .int .i64 0, .slice none 0 0, .int .i64 0, .slice none 0 0, .int .i64 0] 58)).alloc (.map #[{ key := .int .u8 0, val := .func (.func 97) #[.pointer (some ⟨rb, 0, none⟩)] #[], born := 0 }, { key := .int .u8 1, val := .func (.func 98) #[.pointer (some ⟨rb, 0, none⟩)] #[], born := 1 }, { key := .int .u8 2, val := .func (.func 99) #[.pointer (some ⟨rb, 0, none⟩)] #[], born := 2 }, { key := .int .u8 6, val := .func (.func 100) #[.pointer (some ⟨rb, 0, none⟩)] #[], born := 3 }, { key := .int .u8 7, val := .func (.func 101) #[.pointer (some ⟨rb, 0, none⟩)] #[], born := 4 }, { key := .int .u8 8, val := .func (.func 102) #[.pointer (some ⟨rb, 0, none⟩)] #[], born := 5 }, { key := .int .u8 28, val := .func (.func 103) #[.pointer (some ⟨rb, 0, none⟩)] #[], born := 6 }, { key := .int .u8 30, val := .func (.func 104) #[.pointer (some ⟨rb, 0, none⟩)] #[], born := 7 }] 8)) := below_alloc (below_alloc (Below.refl _ _) _) _
  have HC := bytes_post (h.below hb2) 1 (by omega)
  rw [rbyt_one] at HC
  have HCA := Aside0.mk HC
  have HF := Aside0.mk (fun (w3 : World) ho => front (w3 := w3) h (.map #[{ key := .int .u8 0, val := .func (.func 97) #[.pointer (some ⟨rb, 0, none⟩)] #[], born := 0 }, { key := .int .u8 1, val := .func (.func 98) #[.pointer (some ⟨rb, 0, none⟩)] #[], born := 1 }, { key := .int .u8 2, val := .func (.func 99) #[.pointer (some ⟨rb, 0, none⟩)] #[], born := 2 }, { key := .int .u8 6, val := .func (.func 100) #[.pointer (some ⟨rb, 0, none⟩)] #[], born := 3 }, { key := .int .u8 7, val := .func (.func 101) #[.pointer (some ⟨rb, 0, none⟩)] #[], born := 4 }, { key := .int .u8 8, val := .func (.func 102) #[.pointer (some ⟨rb, 0, none⟩)] #[], born := 5 }, { key := .int .u8 28, val := .func (.func 103) #[.pointer (some ⟨rb, 0, none⟩)] #[], born := 6 }, { key := .int .u8 30, val := .func (.func 104) #[.pointer (some ⟨rb, 0, none⟩)] #[], born := 7 }] 8) ho)
  have HL := Aside0.mk (show rb < w.heap.size ∧ w0.heap.size ≤ rb from ⟨h.lt, h.lo⟩)
  generalize hres : next (7 :: t) = res
  clear HC hb2 h
  go_enter Tryd.func80, Tryd.ntmps80
  go_upto_region 2 with (go_at_call 105; refine HCA.out.mono ?_; rintro e1 w3 ⟨ho, v1, rfl, hR, hx⟩; obtain ⟨A1, c1, rfl, hl1, hC⟩ := Kd.R_reads hR; obtain ⟨ad, rfl, hc⟩ := Kd.at_int hC 0 (by omega) (by simp); simp only [rd, Int.toNat_zero, List.getD_cons_zero] at hc; rw [show ad.add 0 = ad from rfl] at hc; obtain ⟨hblk, hon, hmap, hsz⟩ := HF.out w3 ho; have hlook := look_run w3 (w.heap.size + 1) #[{ key := .int .u8 0, val := .func (.func 97) #[.pointer (some ⟨rb, 0, none⟩)] #[], born := 0 }, { key := .int .u8 1, val := .func (.func 98) #[.pointer (some ⟨rb, 0, none⟩)] #[], born := 1 }, { key := .int .u8 2, val := .func (.func 99) #[.pointer (some ⟨rb, 0, none⟩)] #[], born := 2 }, { key := .int .u8 6, val := .func (.func 100) #[.pointer (some ⟨rb, 0, none⟩)] #[], born := 3 }, { key := .int .u8 7, val := .func (.func 101) #[.pointer (some ⟨rb, 0, none⟩)] #[], born := 4 }, { key := .int .u8 8, val := .func (.func 102) #[.pointer (some ⟨rb, 0, none⟩)] #[], born := 5 }, { key := .int .u8 28, val := .func (.func 103) #[.pointer (some ⟨rb, 0, none⟩)] #[], born := 6 }, { key := .int .u8 30, val := .func (.func 104) #[.pointer (some ⟨rb, 0, none⟩)] #[], born := 7 }] 8 7 4 (.func (.func 101) #[.pointer (some ⟨rb, 0, none⟩)] #[]) hmap rfl; have X3 := Aside0.mk hx; have Z3 := Aside0.mk hblk; have O3 := Aside0.mk hon; have S3 := Aside0.mk hsz; clear ho hR hx hC hl1 hblk hon hmap hsz)
  have hneq : (binOp .neq 129 (.func (.func 101) #[.pointer (some ⟨rb, 0, none⟩)] #[]) .nilFunc).run Tryd.prog w3 = .ok (.bool true) w3 := neq_func w3 101 rb
  clear i0 i1 i2 i3 i4 i5 i6 i7 hmf hmm HCA HF
  obtain ⟨b0, hb0⟩ : ∃ b0, w.heap.size = b0 := ⟨_, rfl⟩
  have hs3 := S3.out
  have hb0' := hb0
  rw [hb0] at Z3 ⊢
  have HI := Aside0.mk (And.intro hb0 (show b0 < w3.heap.size ∧ w.heap.size ≤ w3.heap.size by omega))
  clear hb0 hb0' hs3 S3
  have HB : Calls Tryd.prog 101 #[.pointer (some ⟨rb, 0, none⟩)] w3 (FrmP w0 w3 rb (body 7 t)) := by
    have := token_post X3.out
    exact this
  rcases hb : body 7 t with _ | ⟨⟨a0, a1, l2, a3, l4, a5⟩, x⟩
  · obtain rfl : none = res := by rw [← hres, next, hb]; rfl
    rw [hb] at HB
    clear hb hres
    go_wp2_with (first | (go_at_call 79; refine (need_ok _).mono ?_; rintro e1 w4 ⟨rfl, rfl⟩) | (go_at_call 101; refine HB.mono ?_; rintro e1 w5 ⟨ho, rfl⟩; have HO := Aside0.mk ho; clear ho))
    exact ⟨rfl, O3.out.trans HO.out, rfl⟩
  have hlen := body_len hb
  have HRES := Aside0.mk (show (if fr58 ⟨a0, a1, l2, a3, l4, a5⟩ then some ((⟨a0, a1, l2, a3, l4, a5⟩ : S58), x) else none) = res by rw [← hres, next, hb]; rfl)
  obtain ⟨b, hb2, hbi⟩ := FrP.right_f a0 a1 l2 a3 l4 a5 (by simp only [] at hlen; omega) 300 (by omega)
  have HRB := Aside0.mk (And.intro hb2 hbi)
  rw [hb] at HB
  clear hb hres hlen hb2 hbi
  go_upto_region 4 with (first | (go_at_call 79; refine (need_ok _).mono ?_; rintro e1 w4 ⟨rfl, rfl⟩) | (go_at_call 101; refine HB.mono ?_; rintro e1 w5 ⟨ho, ⟨v2, v4, rfl, hR2, hR4⟩, hx⟩; obtain ⟨A2, c2, e2⟩ := Kd.R_slice hR2; obtain ⟨A4, c4, e4⟩ := Kd.R_slice hR4; subst e2 e4; have U2 := Aside0.mk (Kd.R_reads' hR2).2; have U4 := Aside0.mk (Kd.R_reads' hR4).2; have R2 := Aside0.mk hR2; have R4 := Aside0.mk hR4; have HO := Aside0.mk ho; have X5 := Aside0.mk hx; clear ho hx hR2 hR4))
  obtain ⟨w6, hw6⟩ : ∃ w6, w5.alloc (.cells #[.int .i64 a0, .int .i64 a1, .slice A2 l2.length c2, .int .i64 a3, .slice A4 l4.length c4, .int .i64 a5] 58) = w6 := ⟨_, rfl⟩
  have hbel : Below w5.heap.size w5 w6 := by rw [← hw6]; exact below_alloc (Below.refl _ _) _
  have hB6 : Blk w6 w5.heap.size [.int .i64 a0, .int .i64 a1, .slice A2 l2.length c2, .int .i64 a3, .slice A4 l4.length c4, .int .i64 a5] := by rw [← hw6]; exact Blk.new w5 _
  have RC := frame_Right.calls 300 a0 a1 A2 c2 l2 a3 A4 c4 l4 a5 b w6 (Kd.C_below U2.out.2 hbel) U2.out.1 (Kd.C_below U4.out.2 hbel) U4.out.1 HRB.out.1
  rw [hw6]
  have hL := HL.out
  have hI := HI.out
  have h5 := HO.out.size
  have Z6 := Aside0.mk (((Z3.out.only HO.out (by omega)).only (Only.of_below hbel : Only (fun _ => False) w5 w6) (fun q => q)))
  have X6 := Aside0.mk (X5.out.below hbel)
  have R26 := Aside0.mk (R_only R2.out (Only.of_below hbel : Only (fun _ => False) w5 w6) (fun _ q => q.elim))
  have R46 := Aside0.mk (R_only R4.out (Only.of_below hbel : Only (fun _ => False) w5 w6) (fun _ q => q.elim))
  have O6 := Aside0.mk ((O3.out.trans HO.out).trans (Only.of_below hbel))
  obtain ⟨hbk, hhb⟩ : ∃ hbk, w5.heap.size = hbk := ⟨_, rfl⟩
  rw [hhb] at hB6 ⊢
  have HB6 := Aside0.mk hB6
  have HJ := Aside0.mk (show b0 < hbk by omega)
  obtain ⟨n2, hn2⟩ : ∃ n2, l2.length = n2 := ⟨_, rfl⟩
  obtain ⟨n4, hn4⟩ : ∃ n4, l4.length = n4 := ⟨_, rfl⟩
  rw [hn2, hn4] at RC HB6
  rw [hn2] at R26
  rw [hn4] at R46
  clear hbel hB6 hw6 hL hI h5 hhb hn2 hn4 U2 U4 R2 R4 HO X5 X3 Z3 O3 HB
  have q0 := HB6.out.cell 0 _ rfl
  have q1 := HB6.out.cell 1 _ rfl
  have q2 := HB6.out.cell 2 _ rfl
  have q3 := HB6.out.cell 3 _ rfl
  have q4 := HB6.out.cell 4 _ rfl
  have q5 := HB6.out.cell 5 _ rfl
  by_cases hfr : fr58 ⟨a0, a1, l2, a3, l4, a5⟩
  rotate_left
  · obtain rfl : none = res := by have := HRES.out; rw [if_neg hfr] at this; exact this
    obtain rfl : b = false := by
      cases b with
      | false => rfl
      | true => exact absurd (HRB.out.2.1 rfl) hfr
    clear hfr
    go_wp2_with (first | (go_at_call 42; refine RC.mono ?_; rintro e1 w7 ⟨rfl, hb7⟩; have HB7 := Aside0.mk hb7; clear hb7) | (go_at_call 79; refine (need_bad _).mono ?_; rintro e1 w4 ⟨rfl, rfl⟩))
    exact ⟨rfl, O6.out.trans (Only.of_below HB7.out), rfl⟩
  obtain rfl : some ((⟨a0, a1, l2, a3, l4, a5⟩ : S58), x) = res := by have := HRES.out; rw [if_pos hfr] at this; exact this
  obtain rfl : b = true := HRB.out.2.2 hfr
  clear hfr
  go_upto_region 5 with (first | (go_at_call 42; refine RC.mono ?_; rintro e1 w7 ⟨rfl, hb7⟩; have HB7 := Aside0.mk hb7; clear hb7) | (go_at_call 79; refine (need_ok _).mono ?_; rintro e1 w4 ⟨rfl, rfl⟩))
  clear RC q0 q1 q2 q3 q4 q5
  have o7 : Only (fun _ => False) w6 w7 := Only.of_below HB7.out
  have B7 := Aside0.mk (HB6.out.only o7 (fun q => q))
  have Z7 := Aside0.mk (Z6.out.only o7 (fun q => q))
  clear o7
  have q0 := B7.out.cell 0 _ rfl
  have q1 := B7.out.cell 1 _ rfl
  have q2 := B7.out.cell 2 _ rfl
  have q3 := B7.out.cell 3 _ rfl
  have q4 := B7.out.cell 4 _ rfl
  have q5 := B7.out.cell 5 _ rfl
  have z0 := Z7.out.cell 0 _ rfl
  have z1 := Z7.out.cell 1 _ rfl
  have z2 := Z7.out.cell 2 _ rfl
  have z3 := Z7.out.cell 3 _ rfl
  have z4 := Z7.out.cell 4 _ rfl
  have z5 := Z7.out.cell 5 _ rfl
  have y0 := Z7.out.frozen 0
  have y1 := Z7.out.frozen 1
  have y2 := Z7.out.frozen 2
  have y3 := Z7.out.frozen 3
  have y4 := Z7.out.frozen 4
  have y5 := Z7.out.frozen 5
  go_wp2
  change bodyPost _ _ _ _ _ (put6 w7 b0 (.int .i64 a0) (.int .i64 a1) (.slice A2 n2 c2) (.int .i64 a3) (.slice A4 n4 c4) (.int .i64 a5))
  have B8 := put6_blk Z7.out (.int .i64 a0) (.int .i64 a1) (.slice A2 n2 c2) (.int .i64 a3) (.slice A4 n4 c4) (.int .i64 a5)
  have O8 := put6_only w7 b0 (.int .i64 a0) (.int .i64 a1) (.slice A2 n2 c2) (.int .i64 a3) (.slice A4 n4 c4) (.int .i64 a5)
  clear q0 q1 q2 q3 q4 q5 z0 z1 z2 z3 z4 z5 y0 y1 y2 y3 y4 y5
  generalize put6 w7 b0 (.int .i64 a0) (.int .i64 a1) (.slice A2 n2 c2) (.int .i64 a3) (.slice A4 n4 c4) (.int .i64 a5) = w8 at *
  have x0 := B8.cell 0 _ rfl
  have x1 := B8.cell 1 _ rfl
  have x2 := B8.cell 2 _ rfl
  have x3 := B8.cell 3 _ rfl
  have x4 := B8.cell 4 _ rfl
  have x5 := B8.cell 5 _ rfl
  refine bodyPost_ret (v := .agg #[.int .i64 a0, .int .i64 a1, .slice A2 n2 c2, .int .i64 a3, .slice A4 n4 c4, .int .i64 a5]) ?_ rfl ?_
  · simp [results, Tryd.results80, go_sem, x0, x1, x2, x3, x4, x5]
  · clear x0 x1 x2 x3 x4 x5 B8
    have hL := HL.out
    have hI := HI.out
    have o7 : Only (fun _ => False) w6 w7 := Only.of_below HB7.out
    have h6 := R_only (R_only R26.out o7 (fun _ q => q.elim)) O8 (fun k q => by omega)
    have h7 := R_only (R_only R46.out o7 (fun _ q => q.elim)) O8 (fun k q => by omega)
    exact ⟨own_only (O6.out.trans (Only.of_below HB7.out)) O8 (by omega), ⟨_, _, rfl, Kd.R_lower h6 hI.2.2, Kd.R_lower h7 hI.2.2⟩, (X6.out.below HB7.out).only O8 (by omega) (by have := X6.out.lo; omega)⟩
set_option maxHeartbeats 2000000 in
set_option maxRecDepth 100000 in
theorem next_data {w0 w : World} {rb : Nat} {t : List Int} (h : Rdx w0 w rb (8 :: t)) :
    Calls Tryd.prog 80 #[.pointer (some ⟨rb, 0, none⟩)] w (FrmP w0 w rb (next (8 :: t))) := by
  have hmf : ∀ (fn : Fn) (first cap : Array Value) (w : World), (Instr.makeFunc fn first cap).run Tryd.prog w = .ok (.func fn first cap) w := fun _ _ _ _ => rfl
  have hmm := @run_makeMap Tryd.prog
  have TB := Tbl.mk' w rb
  have i0 := TB.i0
  have i1 := TB.i1
  have i2 := TB.i2
  have i3 := TB.i3
  have i4 := TB.i4
  have i5 := TB.i5
  have i6 := TB.i6
  have i7 := TB.i7
  clear TB
  have hb2 : Below w.heap.size w ((w.alloc (.cells #[.int .i64 0, .int .i64 0, .slice none 0 0, .int .i64 0, .slice none 0 0, .int .i64 0] 58)).alloc (.map #[{ key := .int .u8 0, val := .func (.func 97) #[.pointer (some ⟨rb, 0, none⟩)] #[], born := 0 }, { key := .int .u8 1, val := .func (.func 98) #[.pointer (some ⟨rb, 0, none⟩)] #[], born := 1 }, { key := .int .u8 2, val := .func (.func 99) #[.pointer (some ⟨rb, 0, none⟩)] #[], born := 2 }, { key := .int .u8 6, val := .func (.func 100) #[.pointer (some ⟨rb, 0, none⟩)] #[], born := 3 }, { key := .int .u8 7, val := .func (.func 101) #[.pointer (some ⟨rb, 0, none⟩)] #[], born := 4 }, { key := .int .u8 8, val := .func (.func 102) #[.pointer (some ⟨rb, 0, none⟩)] #[], born := 5 }, { key := .int .u8 28, val := .func (.func 103) #[.pointer (some ⟨rb, 0, none⟩)] #[], born := 6 }, { key := .int .u8 30, val := .func (.func 104) #[.pointer (some ⟨rb, 0, none⟩)] #[], born := 7 }] 8)) := below_alloc (below_alloc (Below.refl _ _) _) _
  have HC := bytes_post (h.below hb2) 1 (by omega)
  rw [rbyt_one] at HC
  have HCA := Aside0.mk HC
  have HF := Aside0.mk (fun (w3 : World) ho => front (w3 := w3) h (.map #[{ key := .int .u8 0, val := .func (.func 97) #[.pointer (some ⟨rb, 0, none⟩)] #[], born := 0 }, { key := .int .u8 1, val := .func (.func 98) #[.pointer (some ⟨rb, 0, none⟩)] #[], born := 1 }, { key := .int .u8 2, val := .func (.func 99) #[.pointer (some ⟨rb, 0, none⟩)] #[], born := 2 }, { key := .int .u8 6, val := .func (.func 100) #[.pointer (some ⟨rb, 0, none⟩)] #[], born := 3 }, { key := .int .u8 7, val := .func (.func 101) #[.pointer (some ⟨rb, 0, none⟩)] #[], born := 4 }, { key := .int .u8 8, val := .func (.func 102) #[.pointer (some ⟨rb, 0, none⟩)] #[], born := 5 }, { key := .int .u8 28, val := .func (.func 103) #[.pointer (some ⟨rb, 0, none⟩)] #[], born := 6 }, { key := .int .u8 30, val := .func (.func 104) #[.pointer (some ⟨rb, 0, none⟩)] #[], born := 7 }] 8) ho)
  have HL := Aside0.mk (show rb < w.heap.size ∧ w0.heap.size ≤ rb from ⟨h.lt, h.lo⟩)
  generalize hres : next (8 :: t) = res
  clear HC hb2 h
  go_enter Tryd.func80, Tryd.ntmps80
  go_upto_region 2 with (go_at_call 105; refine HCA.out.mono ?_; rintro e1 w3 ⟨ho, v1, rfl, hR, hx⟩; obtain ⟨A1, c1, rfl, hl1, hC⟩ := Kd.R_reads hR; obtain ⟨ad, rfl, hc⟩ := Kd.at_int hC 0 (by omega) (by simp); simp only [rd, Int.toNat_zero, List.getD_cons_zero] at hc; rw [show ad.add 0 = ad from rfl] at hc; obtain ⟨hblk, hon, hmap, hsz⟩ := HF.out w3 ho; have hlook := look_run w3 (w.heap.size + 1) #[{ key := .int .u8 0, val := .func (.func 97) #[.pointer (some ⟨rb, 0, none⟩)] #[], born := 0 }, { key := .int .u8 1, val := .func (.func 98) #[.pointer (some ⟨rb, 0, none⟩)] #[], born := 1 }, { key := .int .u8 2, val := .func (.func 99) #[.pointer (some ⟨rb, 0, none⟩)] #[], born := 2 }, { key := .int .u8 6, val := .func (.func 100) #[.pointer (some ⟨rb, 0, none⟩)] #[], born := 3 }, { key := .int .u8 7, val := .func (.func 101) #[.pointer (some ⟨rb, 0, none⟩)] #[], born := 4 }, { key := .int .u8 8, val := .func (.func 102) #[.pointer (some ⟨rb, 0, none⟩)] #[], born := 5 }, { key := .int .u8 28, val := .func (.func 103) #[.pointer (some ⟨rb, 0, none⟩)] #[], born := 6 }, { key := .int .u8 30, val := .func (.func 104) #[.pointer (some ⟨rb, 0, none⟩)] #[], born := 7 }] 8 8 5 (.func (.func 102) #[.pointer (some ⟨rb, 0, none⟩)] #[]) hmap rfl; have X3 := Aside0.mk hx; have Z3 := Aside0.mk hblk; have O3 := Aside0.mk hon; have S3 := Aside0.mk hsz; clear ho hR hx hC hl1 hblk hon hmap hsz)
  have hneq : (binOp .neq 129 (.func (.func 102) #[.pointer (some ⟨rb, 0, none⟩)] #[]) .nilFunc).run Tryd.prog w3 = .ok (.bool true) w3 := neq_func w3 102 rb
  clear i0 i1 i2 i3 i4 i5 i6 i7 hmf hmm HCA HF
  obtain ⟨b0, hb0⟩ : ∃ b0, w.heap.size = b0 := ⟨_, rfl⟩
  have hs3 := S3.out
  have hb0' := hb0
  rw [hb0] at Z3 ⊢
  have HI := Aside0.mk (And.intro hb0 (show b0 < w3.heap.size ∧ w.heap.size ≤ w3.heap.size by omega))
  clear hb0 hb0' hs3 S3
  have HB : Calls Tryd.prog 102 #[.pointer (some ⟨rb, 0, none⟩)] w3 (FrmP w0 w3 rb (body 8 t)) := by
    have := data_post X3.out
    exact this
  rcases hb : body 8 t with _ | ⟨⟨a0, a1, l2, a3, l4, a5⟩, x⟩
  · obtain rfl : none = res := by rw [← hres, next, hb]; rfl
    rw [hb] at HB
    clear hb hres
    go_wp2_with (first | (go_at_call 79; refine (need_ok _).mono ?_; rintro e1 w4 ⟨rfl, rfl⟩) | (go_at_call 102; refine HB.mono ?_; rintro e1 w5 ⟨ho, rfl⟩; have HO := Aside0.mk ho; clear ho))
    exact ⟨rfl, O3.out.trans HO.out, rfl⟩
  have hlen := body_len hb
  have HRES := Aside0.mk (show (if fr58 ⟨a0, a1, l2, a3, l4, a5⟩ then some ((⟨a0, a1, l2, a3, l4, a5⟩ : S58), x) else none) = res by rw [← hres, next, hb]; rfl)
  obtain ⟨b, hb2, hbi⟩ := FrP.right_f a0 a1 l2 a3 l4 a5 (by simp only [] at hlen; omega) 300 (by omega)
  have HRB := Aside0.mk (And.intro hb2 hbi)
  rw [hb] at HB
  clear hb hres hlen hb2 hbi
  go_upto_region 4 with (first | (go_at_call 79; refine (need_ok _).mono ?_; rintro e1 w4 ⟨rfl, rfl⟩) | (go_at_call 102; refine HB.mono ?_; rintro e1 w5 ⟨ho, ⟨v2, v4, rfl, hR2, hR4⟩, hx⟩; obtain ⟨A2, c2, e2⟩ := Kd.R_slice hR2; obtain ⟨A4, c4, e4⟩ := Kd.R_slice hR4; subst e2 e4; have U2 := Aside0.mk (Kd.R_reads' hR2).2; have U4 := Aside0.mk (Kd.R_reads' hR4).2; have R2 := Aside0.mk hR2; have R4 := Aside0.mk hR4; have HO := Aside0.mk ho; have X5 := Aside0.mk hx; clear ho hx hR2 hR4))
  obtain ⟨w6, hw6⟩ : ∃ w6, w5.alloc (.cells #[.int .i64 a0, .int .i64 a1, .slice A2 l2.length c2, .int .i64 a3, .slice A4 l4.length c4, .int .i64 a5] 58) = w6 := ⟨_, rfl⟩
  have hbel : Below w5.heap.size w5 w6 := by rw [← hw6]; exact below_alloc (Below.refl _ _) _
  have hB6 : Blk w6 w5.heap.size [.int .i64 a0, .int .i64 a1, .slice A2 l2.length c2, .int .i64 a3, .slice A4 l4.length c4, .int .i64 a5] := by rw [← hw6]; exact Blk.new w5 _
  have RC := frame_Right.calls 300 a0 a1 A2 c2 l2 a3 A4 c4 l4 a5 b w6 (Kd.C_below U2.out.2 hbel) U2.out.1 (Kd.C_below U4.out.2 hbel) U4.out.1 HRB.out.1
  rw [hw6]
  have hL := HL.out
  have hI := HI.out
  have h5 := HO.out.size
  have Z6 := Aside0.mk (((Z3.out.only HO.out (by omega)).only (Only.of_below hbel : Only (fun _ => False) w5 w6) (fun q => q)))
  have X6 := Aside0.mk (X5.out.below hbel)
  have R26 := Aside0.mk (R_only R2.out (Only.of_below hbel : Only (fun _ => False) w5 w6) (fun _ q => q.elim))
  have R46 := Aside0.mk (R_only R4.out (Only.of_below hbel : Only (fun _ => False) w5 w6) (fun _ q => q.elim))
  have O6 := Aside0.mk ((O3.out.trans HO.out).trans (Only.of_below hbel))
  obtain ⟨hbk, hhb⟩ : ∃ hbk, w5.heap.size = hbk := ⟨_, rfl⟩
  rw [hhb] at hB6 ⊢
  have HB6 := Aside0.mk hB6
  have HJ := Aside0.mk (show b0 < hbk by omega)
  obtain ⟨n2, hn2⟩ : ∃ n2, l2.length = n2 := ⟨_, rfl⟩
  obtain ⟨n4, hn4⟩ : ∃ n4, l4.length = n4 := ⟨_, rfl⟩
  rw [hn2, hn4] at RC HB6
  rw [hn2] at R26
  rw [hn4] at R46
  clear hbel hB6 hw6 hL hI h5 hhb hn2 hn4 U2 U4 R2 R4 HO X5 X3 Z3 O3 HB
  have q0 := HB6.out.cell 0 _ rfl
  have q1 := HB6.out.cell 1 _ rfl
  have q2 := HB6.out.cell 2 _ rfl
  have q3 := HB6.out.cell 3 _ rfl
  have q4 := HB6.out.cell 4 _ rfl
  have q5 := HB6.out.cell 5 _ rfl
  by_cases hfr : fr58 ⟨a0, a1, l2, a3, l4, a5⟩
  rotate_left
  · obtain rfl : none = res := by have := HRES.out; rw [if_neg hfr] at this; exact this
    obtain rfl : b = false := by
      cases b with
      | false => rfl
      | true => exact absurd (HRB.out.2.1 rfl) hfr
    clear hfr
    go_wp2_with (first | (go_at_call 42; refine RC.mono ?_; rintro e1 w7 ⟨rfl, hb7⟩; have HB7 := Aside0.mk hb7; clear hb7) | (go_at_call 79; refine (need_bad _).mono ?_; rintro e1 w4 ⟨rfl, rfl⟩))
    exact ⟨rfl, O6.out.trans (Only.of_below HB7.out), rfl⟩
  obtain rfl : some ((⟨a0, a1, l2, a3, l4, a5⟩ : S58), x) = res := by have := HRES.out; rw [if_pos hfr] at this; exact this
  obtain rfl : b = true := HRB.out.2.2 hfr
  clear hfr
  go_upto_region 5 with (first | (go_at_call 42; refine RC.mono ?_; rintro e1 w7 ⟨rfl, hb7⟩; have HB7 := Aside0.mk hb7; clear hb7) | (go_at_call 79; refine (need_ok _).mono ?_; rintro e1 w4 ⟨rfl, rfl⟩))
  clear RC q0 q1 q2 q3 q4 q5
  have o7 : Only (fun _ => False) w6 w7 := Only.of_below HB7.out
  have B7 := Aside0.mk (HB6.out.only o7 (fun q => q))
  have Z7 := Aside0.mk (Z6.out.only o7 (fun q => q))
  clear o7
  have q0 := B7.out.cell 0 _ rfl
  have q1 := B7.out.cell 1 _ rfl
  have q2 := B7.out.cell 2 _ rfl
  have q3 := B7.out.cell 3 _ rfl
  have q4 := B7.out.cell 4 _ rfl
  have q5 := B7.out.cell 5 _ rfl
  have z0 := Z7.out.cell 0 _ rfl
  have z1 := Z7.out.cell 1 _ rfl
  have z2 := Z7.out.cell 2 _ rfl
  have z3 := Z7.out.cell 3 _ rfl
  have z4 := Z7.out.cell 4 _ rfl
  have z5 := Z7.out.cell 5 _ rfl
  have y0 := Z7.out.frozen 0
  have y1 := Z7.out.frozen 1
  have y2 := Z7.out.frozen 2
  have y3 := Z7.out.frozen 3
  have y4 := Z7.out.frozen 4
  have y5 := Z7.out.frozen 5
  go_wp2
  change bodyPost _ _ _ _ _ (put6 w7 b0 (.int .i64 a0) (.int .i64 a1) (.slice A2 n2 c2) (.int .i64 a3) (.slice A4 n4 c4) (.int .i64 a5))
  have B8 := put6_blk Z7.out (.int .i64 a0) (.int .i64 a1) (.slice A2 n2 c2) (.int .i64 a3) (.slice A4 n4 c4) (.int .i64 a5)
  have O8 := put6_only w7 b0 (.int .i64 a0) (.int .i64 a1) (.slice A2 n2 c2) (.int .i64 a3) (.slice A4 n4 c4) (.int .i64 a5)
  clear q0 q1 q2 q3 q4 q5 z0 z1 z2 z3 z4 z5 y0 y1 y2 y3 y4 y5
  generalize put6 w7 b0 (.int .i64 a0) (.int .i64 a1) (.slice A2 n2 c2) (.int .i64 a3) (.slice A4 n4 c4) (.int .i64 a5) = w8 at *
  have x0 := B8.cell 0 _ rfl
  have x1 := B8.cell 1 _ rfl
  have x2 := B8.cell 2 _ rfl
  have x3 := B8.cell 3 _ rfl
  have x4 := B8.cell 4 _ rfl
  have x5 := B8.cell 5 _ rfl
  refine bodyPost_ret (v := .agg #[.int .i64 a0, .int .i64 a1, .slice A2 n2 c2, .int .i64 a3, .slice A4 n4 c4, .int .i64 a5]) ?_ rfl ?_
  · simp [results, Tryd.results80, go_sem, x0, x1, x2, x3, x4, x5]
  · clear x0 x1 x2 x3 x4 x5 B8
    have hL := HL.out
    have hI := HI.out
    have o7 : Only (fun _ => False) w6 w7 := Only.of_below HB7.out
    have h6 := R_only (R_only R26.out o7 (fun _ q => q.elim)) O8 (fun k q => by omega)
    have h7 := R_only (R_only R46.out o7 (fun _ q => q.elim)) O8 (fun k q => by omega)
    exact ⟨own_only (O6.out.trans (Only.of_below HB7.out)) O8 (by omega), ⟨_, _, rfl, Kd.R_lower h6 hI.2.2, Kd.R_lower h7 hI.2.2⟩, (X6.out.below HB7.out).only O8 (by omega) (by have := X6.out.lo; omega)⟩
set_option maxHeartbeats 2000000 in
set_option maxRecDepth 100000 in
theorem next_closed {w0 w : World} {rb : Nat} {t : List Int} (h : Rdx w0 w rb (28 :: t)) :
    Calls Tryd.prog 80 #[.pointer (some ⟨rb, 0, none⟩)] w (FrmP w0 w rb (next (28 :: t))) := by
  have hmf : ∀ (fn : Fn) (first cap : Array Value) (w : World), (Instr.makeFunc fn first cap).run Tryd.prog w = .ok (.func fn first cap) w := fun _ _ _ _ => rfl
  have hmm := @run_makeMap Tryd.prog
  have TB := Tbl.mk' w rb
  have i0 := TB.i0
  have i1 := TB.i1
  have i2 := TB.i2
  have i3 := TB.i3
  have i4 := TB.i4
  have i5 := TB.i5
  have i6 := TB.i6
  have i7 := TB.i7
  clear TB
  have hb2 : Below w.heap.size w ((w.alloc (.cells #[.int .i64 0, .int .i64 0, .slice none 0 0, .int .i64 0, .slice none 0 0, .int .i64 0] 58)).alloc (.map #[{ key := .int .u8 0, val := .func (.func 97) #[.pointer (some ⟨rb, 0, none⟩)] #[], born := 0 }, { key := .int .u8 1, val := .func (.func 98) #[.pointer (some ⟨rb, 0, none⟩)] #[], born := 1 }, { key := .int .u8 2, val := .func (.func 99) #[.pointer (some ⟨rb, 0, none⟩)] #[], born := 2 }, { key := .int .u8 6, val := .func (.func 100) #[.pointer (some ⟨rb, 0, none⟩)] #[], born := 3 }, { key := .int .u8 7, val := .func (.func 101) #[.pointer (some ⟨rb, 0, none⟩)] #[], born := 4 }, { key := .int .u8 8, val := .func (.func 102) #[.pointer (some ⟨rb, 0, none⟩)] #[], born := 5 }, { key := .int .u8 28, val := .func (.func 103) #[.pointer (some ⟨rb, 0, none⟩)] #[], born := 6 }, { key := .int .u8 30, val := .func (.func 104) #[.pointer (some ⟨rb, 0, none⟩)] #[], born := 7 }] 8)) := below_alloc (below_alloc (Below.refl _ _) _) _
  have HC := bytes_post (h.below hb2) 1 (by omega)
  rw [rbyt_one] at HC
  have HCA := Aside0.mk HC
  have HF := Aside0.mk (fun (w3 : World) ho => front (w3 := w3) h (.map #[{ key := .int .u8 0, val := .func (.func 97) #[.pointer (some ⟨rb, 0, none⟩)] #[], born := 0 }, { key := .int .u8 1, val := .func (.func 98) #[.pointer (some ⟨rb, 0, none⟩)] #[], born := 1 }, { key := .int .u8 2, val := .func (.func 99) #[.pointer (some ⟨rb, 0, none⟩)] #[], born := 2 }, { key := .int .u8 6, val := .func (.func 100) #[.pointer (some ⟨rb, 0, none⟩)] #[], born := 3 }, { key := .int .u8 7, val := .func (.func 101) #[.pointer (some ⟨rb, 0, none⟩)] #[], born := 4 }, { key := .int .u8 8, val := .func (.func 102) #[.pointer (some ⟨rb, 0, none⟩)] #[], born := 5 }, { key := .int .u8 28, val := .func (.func 103) #[.pointer (some ⟨rb, 0, none⟩)] #[], born := 6 }, { key := .int .u8 30, val := .func (.func 104) #[.pointer (some ⟨rb, 0, none⟩)] #[], born := 7 }] 8) ho)
  have HL := Aside0.mk (show rb < w.heap.size ∧ w0.heap.size ≤ rb from ⟨h.lt, h.lo⟩)
  generalize hres : next (28 :: t) = res
  clear HC hb2 h
  go_enter Tryd.func80, Tryd.ntmps80
  go_upto_region 2 with (go_at_call 105; refine HCA.out.mono ?_; rintro e1 w3 ⟨ho, v1, rfl, hR, hx⟩; obtain ⟨A1, c1, rfl, hl1, hC⟩ := Kd.R_reads hR; obtain ⟨ad, rfl, hc⟩ := Kd.at_int hC 0 (by omega) (by simp); simp only [rd, Int.toNat_zero, List.getD_cons_zero] at hc; rw [show ad.add 0 = ad from rfl] at hc; obtain ⟨hblk, hon, hmap, hsz⟩ := HF.out w3 ho; have hlook := look_run w3 (w.heap.size + 1) #[{ key := .int .u8 0, val := .func (.func 97) #[.pointer (some ⟨rb, 0, none⟩)] #[], born := 0 }, { key := .int .u8 1, val := .func (.func 98) #[.pointer (some ⟨rb, 0, none⟩)] #[], born := 1 }, { key := .int .u8 2, val := .func (.func 99) #[.pointer (some ⟨rb, 0, none⟩)] #[], born := 2 }, { key := .int .u8 6, val := .func (.func 100) #[.pointer (some ⟨rb, 0, none⟩)] #[], born := 3 }, { key := .int .u8 7, val := .func (.func 101) #[.pointer (some ⟨rb, 0, none⟩)] #[], born := 4 }, { key := .int .u8 8, val := .func (.func 102) #[.pointer (some ⟨rb, 0, none⟩)] #[], born := 5 }, { key := .int .u8 28, val := .func (.func 103) #[.pointer (some ⟨rb, 0, none⟩)] #[], born := 6 }, { key := .int .u8 30, val := .func (.func 104) #[.pointer (some ⟨rb, 0, none⟩)] #[], born := 7 }] 8 28 6 (.func (.func 103) #[.pointer (some ⟨rb, 0, none⟩)] #[]) hmap rfl; have X3 := Aside0.mk hx; have Z3 := Aside0.mk hblk; have O3 := Aside0.mk hon; have S3 := Aside0.mk hsz; clear ho hR hx hC hl1 hblk hon hmap hsz)
  have hneq : (binOp .neq 129 (.func (.func 103) #[.pointer (some ⟨rb, 0, none⟩)] #[]) .nilFunc).run Tryd.prog w3 = .ok (.bool true) w3 := neq_func w3 103 rb
  clear i0 i1 i2 i3 i4 i5 i6 i7 hmf hmm HCA HF
  obtain ⟨b0, hb0⟩ : ∃ b0, w.heap.size = b0 := ⟨_, rfl⟩
  have hs3 := S3.out
  have hb0' := hb0
  rw [hb0] at Z3 ⊢
  have HI := Aside0.mk (And.intro hb0 (show b0 < w3.heap.size ∧ w.heap.size ≤ w3.heap.size by omega))
  clear hb0 hb0' hs3 S3
  have HB : Calls Tryd.prog 103 #[.pointer (some ⟨rb, 0, none⟩)] w3 (FrmP w0 w3 rb (body 28 t)) := by
    have := closed_post X3.out
    exact this
  rcases hb : body 28 t with _ | ⟨⟨a0, a1, l2, a3, l4, a5⟩, x⟩
  · obtain rfl : none = res := by rw [← hres, next, hb]; rfl
    rw [hb] at HB
    clear hb hres
    go_wp2_with (first | (go_at_call 79; refine (need_ok _).mono ?_; rintro e1 w4 ⟨rfl, rfl⟩) | (go_at_call 103; refine HB.mono ?_; rintro e1 w5 ⟨ho, rfl⟩; have HO := Aside0.mk ho; clear ho))
    exact ⟨rfl, O3.out.trans HO.out, rfl⟩
  have hlen := body_len hb
  have HRES := Aside0.mk (show (if fr58 ⟨a0, a1, l2, a3, l4, a5⟩ then some ((⟨a0, a1, l2, a3, l4, a5⟩ : S58), x) else none) = res by rw [← hres, next, hb]; rfl)
  obtain ⟨b, hb2, hbi⟩ := FrP.right_f a0 a1 l2 a3 l4 a5 (by simp only [] at hlen; omega) 300 (by omega)
  have HRB := Aside0.mk (And.intro hb2 hbi)
  rw [hb] at HB
  clear hb hres hlen hb2 hbi
  go_upto_region 4 with (first | (go_at_call 79; refine (need_ok _).mono ?_; rintro e1 w4 ⟨rfl, rfl⟩) | (go_at_call 103; refine HB.mono ?_; rintro e1 w5 ⟨ho, ⟨v2, v4, rfl, hR2, hR4⟩, hx⟩; obtain ⟨A2, c2, e2⟩ := Kd.R_slice hR2; obtain ⟨A4, c4, e4⟩ := Kd.R_slice hR4; subst e2 e4; have U2 := Aside0.mk (Kd.R_reads' hR2).2; have U4 := Aside0.mk (Kd.R_reads' hR4).2; have R2 := Aside0.mk hR2; have R4 := Aside0.mk hR4; have HO := Aside0.mk ho; have X5 := Aside0.mk hx; clear ho hx hR2 hR4))
  obtain ⟨w6, hw6⟩ : ∃ w6, w5.alloc (.cells #[.int .i64 a0, .int .i64 a1, .slice A2 l2.length c2, .int .i64 a3, .slice A4 l4.length c4, .int .i64 a5] 58) = w6 := ⟨_, rfl⟩
  have hbel : Below w5.heap.size w5 w6 := by rw [← hw6]; exact below_alloc (Below.refl _ _) _
  have hB6 : Blk w6 w5.heap.size [.int .i64 a0, .int .i64 a1, .slice A2 l2.length c2, .int .i64 a3, .slice A4 l4.length c4, .int .i64 a5] := by rw [← hw6]; exact Blk.new w5 _
  have RC := frame_Right.calls 300 a0 a1 A2 c2 l2 a3 A4 c4 l4 a5 b w6 (Kd.C_below U2.out.2 hbel) U2.out.1 (Kd.C_below U4.out.2 hbel) U4.out.1 HRB.out.1
  rw [hw6]
  have hL := HL.out
  have hI := HI.out
  have h5 := HO.out.size
  have Z6 := Aside0.mk (((Z3.out.only HO.out (by omega)).only (Only.of_below hbel : Only (fun _ => False) w5 w6) (fun q => q)))
  have X6 := Aside0.mk (X5.out.below hbel)
  have R26 := Aside0.mk (R_only R2.out (Only.of_below hbel : Only (fun _ => False) w5 w6) (fun _ q => q.elim))
  have R46 := Aside0.mk (R_only R4.out (Only.of_below hbel : Only (fun _ => False) w5 w6) (fun _ q => q.elim))
  have O6 := Aside0.mk ((O3.out.trans HO.out).trans (Only.of_below hbel))
  obtain ⟨hbk, hhb⟩ : ∃ hbk, w5.heap.size = hbk := ⟨_, rfl⟩
  rw [hhb] at hB6 ⊢
  have HB6 := Aside0.mk hB6
  have HJ := Aside0.mk (show b0 < hbk by omega)
  obtain ⟨n2, hn2⟩ : ∃ n2, l2.length = n2 := ⟨_, rfl⟩
  obtain ⟨n4, hn4⟩ : ∃ n4, l4.length = n4 := ⟨_, rfl⟩
  rw [hn2, hn4] at RC HB6
  rw [hn2] at R26
  rw [hn4] at R46
  clear hbel hB6 hw6 hL hI h5 hhb hn2 hn4 U2 U4 R2 R4 HO X5 X3 Z3 O3 HB
  have q0 := HB6.out.cell 0 _ rfl
  have q1 := HB6.out.cell 1 _ rfl
  have q2 := HB6.out.cell 2 _ rfl
  have q3 := HB6.out.cell 3 _ rfl
  have q4 := HB6.out.cell 4 _ rfl
  have q5 := HB6.out.cell 5 _ rfl
  by_cases hfr : fr58 ⟨a0, a1, l2, a3, l4, a5⟩
  rotate_left
  · obtain rfl : none = res := by have := HRES.out; rw [if_neg hfr] at this; exact this
    obtain rfl : b = false := by
      cases b with
      | false => rfl
      | true => exact absurd (HRB.out.2.1 rfl) hfr
    clear hfr
    go_wp2_with (first | (go_at_call 42; refine RC.mono ?_; rintro e1 w7 ⟨rfl, hb7⟩; have HB7 := Aside0.mk hb7; clear hb7) | (go_at_call 79; refine (need_bad _).mono ?_; rintro e1 w4 ⟨rfl, rfl⟩))
    exact ⟨rfl, O6.out.trans (Only.of_below HB7.out), rfl⟩
  obtain rfl : some ((⟨a0, a1, l2, a3, l4, a5⟩ : S58), x) = res := by have := HRES.out; rw [if_pos hfr] at this; exact this
  obtain rfl : b = true := HRB.out.2.2 hfr
  clear hfr
  go_upto_region 5 with (first | (go_at_call 42; refine RC.mono ?_; rintro e1 w7 ⟨rfl, hb7⟩; have HB7 := Aside0.mk hb7; clear hb7) | (go_at_call 79; refine (need_ok _).mono ?_; rintro e1 w4 ⟨rfl, rfl⟩))
  clear RC q0 q1 q2 q3 q4 q5
  have o7 : Only (fun _ => False) w6 w7 := Only.of_below HB7.out
  have B7 := Aside0.mk (HB6.out.only o7 (fun q => q))
  have Z7 := Aside0.mk (Z6.out.only o7 (fun q => q))
  clear o7
  have q0 := B7.out.cell 0 _ rfl
  have q1 := B7.out.cell 1 _ rfl
  have q2 := B7.out.cell 2 _ rfl
  have q3 := B7.out.cell 3 _ rfl
  have q4 := B7.out.cell 4 _ rfl
  have q5 := B7.out.cell 5 _ rfl
  have z0 := Z7.out.cell 0 _ rfl
  have z1 := Z7.out.cell 1 _ rfl
  have z2 := Z7.out.cell 2 _ rfl
  have z3 := Z7.out.cell 3 _ rfl
  have z4 := Z7.out.cell 4 _ rfl
  have z5 := Z7.out.cell 5 _ rfl
  have y0 := Z7.out.frozen 0
  have y1 := Z7.out.frozen 1
  have y2 := Z7.out.frozen 2
  have y3 := Z7.out.frozen 3
  have y4 := Z7.out.frozen 4
  have y5 := Z7.out.frozen 5
  go_wp2
  change bodyPost _ _ _ _ _ (put6 w7 b0 (.int .i64 a0) (.int .i64 a1) (.slice A2 n2 c2) (.int .i64 a3) (.slice A4 n4 c4) (.int .i64 a5))
  have B8 := put6_blk Z7.out (.int .i64 a0) (.int .i64 a1) (.slice A2 n2 c2) (.int .i64 a3) (.slice A4 n4 c4) (.int .i64 a5)
  have O8 := put6_only w7 b0 (.int .i64 a0) (.int .i64 a1) (.slice A2 n2 c2) (.int .i64 a3) (.slice A4 n4 c4) (.int .i64 a5)
  clear q0 q1 q2 q3 q4 q5 z0 z1 z2 z3 z4 z5 y0 y1 y2 y3 y4 y5
  generalize put6 w7 b0 (.int .i64 a0) (.int .i64 a1) (.slice A2 n2 c2) (.int .i64 a3) (.slice A4 n4 c4) (.int .i64 a5) = w8 at *
  have x0 := B8.cell 0 _ rfl
  have x1 := B8.cell 1 _ rfl
  have x2 := B8.cell 2 _ rfl
  have x3 := B8.cell 3 _ rfl
  have x4 := B8.cell 4 _ rfl
  have x5 := B8.cell 5 _ rfl
  refine bodyPost_ret (v := .agg #[.int .i64 a0, .int .i64 a1, .slice A2 n2 c2, .int .i64 a3, .slice A4 n4 c4, .int .i64 a5]) ?_ rfl ?_
  · simp [results, Tryd.results80, go_sem, x0, x1, x2, x3, x4, x5]
  · clear x0 x1 x2 x3 x4 x5 B8
    have hL := HL.out
    have hI := HI.out
    have o7 : Only (fun _ => False) w6 w7 := Only.of_below HB7.out
    have h6 := R_only (R_only R26.out o7 (fun _ q => q.elim)) O8 (fun k q => by omega)
    have h7 := R_only (R_only R46.out o7 (fun _ q => q.elim)) O8 (fun k q => by omega)
    exact ⟨own_only (O6.out.trans (Only.of_below HB7.out)) O8 (by omega), ⟨_, _, rfl, Kd.R_lower h6 hI.2.2, Kd.R_lower h7 hI.2.2⟩, (X6.out.below HB7.out).only O8 (by omega) (by have := X6.out.lo; omega)⟩
set_option maxHeartbeats 2000000 in
set_option maxRecDepth 100000 in
theorem next_done {w0 w : World} {rb : Nat} {t : List Int} (h : Rdx w0 w rb (30 :: t)) :
    Calls Tryd.prog 80 #[.pointer (some ⟨rb, 0, none⟩)] w (FrmP w0 w rb (next (30 :: t))) := by
  have hmf : ∀ (fn : Fn) (first cap : Array Value) (w : World), (Instr.makeFunc fn first cap).run Tryd.prog w = .ok (.func fn first cap) w := fun _ _ _ _ => rfl
  have hmm := @run_makeMap Tryd.prog
  have TB := Tbl.mk' w rb
  have i0 := TB.i0
  have i1 := TB.i1
  have i2 := TB.i2
  have i3 := TB.i3
  have i4 := TB.i4
  have i5 := TB.i5
  have i6 := TB.i6
  have i7 := TB.i7
  clear TB
  have hb2 : Below w.heap.size w ((w.alloc (.cells #[.int .i64 0, .int .i64 0, .slice none 0 0, .int .i64 0, .slice none 0 0, .int .i64 0] 58)).alloc (.map #[{ key := .int .u8 0, val := .func (.func 97) #[.pointer (some ⟨rb, 0, none⟩)] #[], born := 0 }, { key := .int .u8 1, val := .func (.func 98) #[.pointer (some ⟨rb, 0, none⟩)] #[], born := 1 }, { key := .int .u8 2, val := .func (.func 99) #[.pointer (some ⟨rb, 0, none⟩)] #[], born := 2 }, { key := .int .u8 6, val := .func (.func 100) #[.pointer (some ⟨rb, 0, none⟩)] #[], born := 3 }, { key := .int .u8 7, val := .func (.func 101) #[.pointer (some ⟨rb, 0, none⟩)] #[], born := 4 }, { key := .int .u8 8, val := .func (.func 102) #[.pointer (some ⟨rb, 0, none⟩)] #[], born := 5 }, { key := .int .u8 28, val := .func (.func 103) #[.pointer (some ⟨rb, 0, none⟩)] #[], born := 6 }, { key := .int .u8 30, val := .func (.func 104) #[.pointer (some ⟨rb, 0, none⟩)] #[], born := 7 }] 8)) := below_alloc (below_alloc (Below.refl _ _) _) _
  have HC := bytes_post (h.below hb2) 1 (by omega)
  rw [rbyt_one] at HC
  have HCA := Aside0.mk HC
  have HF := Aside0.mk (fun (w3 : World) ho => front (w3 := w3) h (.map #[{ key := .int .u8 0, val := .func (.func 97) #[.pointer (some ⟨rb, 0, none⟩)] #[], born := 0 }, { key := .int .u8 1, val := .func (.func 98) #[.pointer (some ⟨rb, 0, none⟩)] #[], born := 1 }, { key := .int .u8 2, val := .func (.func 99) #[.pointer (some ⟨rb, 0, none⟩)] #[], born := 2 }, { key := .int .u8 6, val := .func (.func 100) #[.pointer (some ⟨rb, 0, none⟩)] #[], born := 3 }, { key := .int .u8 7, val := .func (.func 101) #[.pointer (some ⟨rb, 0, none⟩)] #[], born := 4 }, { key := .int .u8 8, val := .func (.func 102) #[.pointer (some ⟨rb, 0, none⟩)] #[], born := 5 }, { key := .int .u8 28, val := .func (.func 103) #[.pointer (some ⟨rb, 0, none⟩)] #[], born := 6 }, { key := .int .u8 30, val := .func (.func 104) #[.pointer (some ⟨rb, 0, none⟩)] #[], born := 7 }] 8) ho)
  have HL := Aside0.mk (show rb < w.heap.size ∧ w0.heap.size ≤ rb from ⟨h.lt, h.lo⟩)
  generalize hres : next (30 :: t) = res
  clear HC hb2 h
  go_enter Tryd.func80, Tryd.ntmps80
  go_upto_region 2 with (go_at_call 105; refine HCA.out.mono ?_; rintro e1 w3 ⟨ho, v1, rfl, hR, hx⟩; obtain ⟨A1, c1, rfl, hl1, hC⟩ := Kd.R_reads hR; obtain ⟨ad, rfl, hc⟩ := Kd.at_int hC 0 (by omega) (by simp); simp only [rd, Int.toNat_zero, List.getD_cons_zero] at hc; rw [show ad.add 0 = ad from rfl] at hc; obtain ⟨hblk, hon, hmap, hsz⟩ := HF.out w3 ho; have hlook := look_run w3 (w.heap.size + 1) #[{ key := .int .u8 0, val := .func (.func 97) #[.pointer (some ⟨rb, 0, none⟩)] #[], born := 0 }, { key := .int .u8 1, val := .func (.func 98) #[.pointer (some ⟨rb, 0, none⟩)] #[], born := 1 }, { key := .int .u8 2, val := .func (.func 99) #[.pointer (some ⟨rb, 0, none⟩)] #[], born := 2 }, { key := .int .u8 6, val := .func (.func 100) #[.pointer (some ⟨rb, 0, none⟩)] #[], born := 3 }, { key := .int .u8 7, val := .func (.func 101) #[.pointer (some ⟨rb, 0, none⟩)] #[], born := 4 }, { key := .int .u8 8, val := .func (.func 102) #[.pointer (some ⟨rb, 0, none⟩)] #[], born := 5 }, { key := .int .u8 28, val := .func (.func 103) #[.pointer (some ⟨rb, 0, none⟩)] #[], born := 6 }, { key := .int .u8 30, val := .func (.func 104) #[.pointer (some ⟨rb, 0, none⟩)] #[], born := 7 }] 8 30 7 (.func (.func 104) #[.pointer (some ⟨rb, 0, none⟩)] #[]) hmap rfl; have X3 := Aside0.mk hx; have Z3 := Aside0.mk hblk; have O3 := Aside0.mk hon; have S3 := Aside0.mk hsz; clear ho hR hx hC hl1 hblk hon hmap hsz)
  have hneq : (binOp .neq 129 (.func (.func 104) #[.pointer (some ⟨rb, 0, none⟩)] #[]) .nilFunc).run Tryd.prog w3 = .ok (.bool true) w3 := neq_func w3 104 rb
  clear i0 i1 i2 i3 i4 i5 i6 i7 hmf hmm HCA HF
  obtain ⟨b0, hb0⟩ : ∃ b0, w.heap.size = b0 := ⟨_, rfl⟩
  have hs3 := S3.out
  have hb0' := hb0
  rw [hb0] at Z3 ⊢
  have HI := Aside0.mk (And.intro hb0 (show b0 < w3.heap.size ∧ w.heap.size ≤ w3.heap.size by omega))
  clear hb0 hb0' hs3 S3
  have HB : Calls Tryd.prog 104 #[.pointer (some ⟨rb, 0, none⟩)] w3 (FrmP w0 w3 rb (body 30 t)) := by
    have := done_post X3.out
    exact this
  rcases hb : body 30 t with _ | ⟨⟨a0, a1, l2, a3, l4, a5⟩, x⟩
  · obtain rfl : none = res := by rw [← hres, next, hb]; rfl
    rw [hb] at HB
    clear hb hres
    go_wp2_with (first | (go_at_call 79; refine (need_ok _).mono ?_; rintro e1 w4 ⟨rfl, rfl⟩) | (go_at_call 104; refine HB.mono ?_; rintro e1 w5 ⟨ho, rfl⟩; have HO := Aside0.mk ho; clear ho))
    exact ⟨rfl, O3.out.trans HO.out, rfl⟩
  have hlen := body_len hb
  have HRES := Aside0.mk (show (if fr58 ⟨a0, a1, l2, a3, l4, a5⟩ then some ((⟨a0, a1, l2, a3, l4, a5⟩ : S58), x) else none) = res by rw [← hres, next, hb]; rfl)
  obtain ⟨b, hb2, hbi⟩ := FrP.right_f a0 a1 l2 a3 l4 a5 (by simp only [] at hlen; omega) 300 (by omega)
  have HRB := Aside0.mk (And.intro hb2 hbi)
  rw [hb] at HB
  clear hb hres hlen hb2 hbi
  go_upto_region 4 with (first | (go_at_call 79; refine (need_ok _).mono ?_; rintro e1 w4 ⟨rfl, rfl⟩) | (go_at_call 104; refine HB.mono ?_; rintro e1 w5 ⟨ho, ⟨v2, v4, rfl, hR2, hR4⟩, hx⟩; obtain ⟨A2, c2, e2⟩ := Kd.R_slice hR2; obtain ⟨A4, c4, e4⟩ := Kd.R_slice hR4; subst e2 e4; have U2 := Aside0.mk (Kd.R_reads' hR2).2; have U4 := Aside0.mk (Kd.R_reads' hR4).2; have R2 := Aside0.mk hR2; have R4 := Aside0.mk hR4; have HO := Aside0.mk ho; have X5 := Aside0.mk hx; clear ho hx hR2 hR4))
  obtain ⟨w6, hw6⟩ : ∃ w6, w5.alloc (.cells #[.int .i64 a0, .int .i64 a1, .slice A2 l2.length c2, .int .i64 a3, .slice A4 l4.length c4, .int .i64 a5] 58) = w6 := ⟨_, rfl⟩
  have hbel : Below w5.heap.size w5 w6 := by rw [← hw6]; exact below_alloc (Below.refl _ _) _
  have hB6 : Blk w6 w5.heap.size [.int .i64 a0, .int .i64 a1, .slice A2 l2.length c2, .int .i64 a3, .slice A4 l4.length c4, .int .i64 a5] := by rw [← hw6]; exact Blk.new w5 _
  have RC := frame_Right.calls 300 a0 a1 A2 c2 l2 a3 A4 c4 l4 a5 b w6 (Kd.C_below U2.out.2 hbel) U2.out.1 (Kd.C_below U4.out.2 hbel) U4.out.1 HRB.out.1
  rw [hw6]
  have hL := HL.out
  have hI := HI.out
  have h5 := HO.out.size
  have Z6 := Aside0.mk (((Z3.out.only HO.out (by omega)).only (Only.of_below hbel : Only (fun _ => False) w5 w6) (fun q => q)))
  have X6 := Aside0.mk (X5.out.below hbel)
  have R26 := Aside0.mk (R_only R2.out (Only.of_below hbel : Only (fun _ => False) w5 w6) (fun _ q => q.elim))
  have R46 := Aside0.mk (R_only R4.out (Only.of_below hbel : Only (fun _ => False) w5 w6) (fun _ q => q.elim))
  have O6 := Aside0.mk ((O3.out.trans HO.out).trans (Only.of_below hbel))
  obtain ⟨hbk, hhb⟩ : ∃ hbk, w5.heap.size = hbk := ⟨_, rfl⟩
  rw [hhb] at hB6 ⊢
  have HB6 := Aside0.mk hB6
  have HJ := Aside0.mk (show b0 < hbk by omega)
  obtain ⟨n2, hn2⟩ : ∃ n2, l2.length = n2 := ⟨_, rfl⟩
  obtain ⟨n4, hn4⟩ : ∃ n4, l4.length = n4 := ⟨_, rfl⟩
  rw [hn2, hn4] at RC HB6
  rw [hn2] at R26
  rw [hn4] at R46
  clear hbel hB6 hw6 hL hI h5 hhb hn2 hn4 U2 U4 R2 R4 HO X5 X3 Z3 O3 HB
  have q0 := HB6.out.cell 0 _ rfl
  have q1 := HB6.out.cell 1 _ rfl
  have q2 := HB6.out.cell 2 _ rfl
  have q3 := HB6.out.cell 3 _ rfl
  have q4 := HB6.out.cell 4 _ rfl
  have q5 := HB6.out.cell 5 _ rfl
  by_cases hfr : fr58 ⟨a0, a1, l2, a3, l4, a5⟩
  rotate_left
  · obtain rfl : none = res := by have := HRES.out; rw [if_neg hfr] at this; exact this
    obtain rfl : b = false := by
      cases b with
      | false => rfl
      | true => exact absurd (HRB.out.2.1 rfl) hfr
    clear hfr
    go_wp2_with (first | (go_at_call 42; refine RC.mono ?_; rintro e1 w7 ⟨rfl, hb7⟩; have HB7 := Aside0.mk hb7; clear hb7) | (go_at_call 79; refine (need_bad _).mono ?_; rintro e1 w4 ⟨rfl, rfl⟩))
    exact ⟨rfl, O6.out.trans (Only.of_below HB7.out), rfl⟩
  obtain rfl : some ((⟨a0, a1, l2, a3, l4, a5⟩ : S58), x) = res := by have := HRES.out; rw [if_pos hfr] at this; exact this
  obtain rfl : b = true := HRB.out.2.2 hfr
  clear hfr
  go_upto_region 5 with (first | (go_at_call 42; refine RC.mono ?_; rintro e1 w7 ⟨rfl, hb7⟩; have HB7 := Aside0.mk hb7; clear hb7) | (go_at_call 79; refine (need_ok _).mono ?_; rintro e1 w4 ⟨rfl, rfl⟩))
  clear RC q0 q1 q2 q3 q4 q5
  have o7 : Only (fun _ => False) w6 w7 := Only.of_below HB7.out
  have B7 := Aside0.mk (HB6.out.only o7 (fun q => q))
  have Z7 := Aside0.mk (Z6.out.only o7 (fun q => q))
  clear o7
  have q0 := B7.out.cell 0 _ rfl
  have q1 := B7.out.cell 1 _ rfl
  have q2 := B7.out.cell 2 _ rfl
  have q3 := B7.out.cell 3 _ rfl
  have q4 := B7.out.cell 4 _ rfl
  have q5 := B7.out.cell 5 _ rfl
  have z0 := Z7.out.cell 0 _ rfl
  have z1 := Z7.out.cell 1 _ rfl
  have z2 := Z7.out.cell 2 _ rfl
  have z3 := Z7.out.cell 3 _ rfl
  have z4 := Z7.out.cell 4 _ rfl
  have z5 := Z7.out.cell 5 _ rfl
  have y0 := Z7.out.frozen 0
  have y1 := Z7.out.frozen 1
  have y2 := Z7.out.frozen 2
  have y3 := Z7.out.frozen 3
  have y4 := Z7.out.frozen 4
  have y5 := Z7.out.frozen 5
  go_wp2
  change bodyPost _ _ _ _ _ (put6 w7 b0 (.int .i64 a0) (.int .i64 a1) (.slice A2 n2 c2) (.int .i64 a3) (.slice A4 n4 c4) (.int .i64 a5))
  have B8 := put6_blk Z7.out (.int .i64 a0) (.int .i64 a1) (.slice A2 n2 c2) (.int .i64 a3) (.slice A4 n4 c4) (.int .i64 a5)
  have O8 := put6_only w7 b0 (.int .i64 a0) (.int .i64 a1) (.slice A2 n2 c2) (.int .i64 a3) (.slice A4 n4 c4) (.int .i64 a5)
  clear q0 q1 q2 q3 q4 q5 z0 z1 z2 z3 z4 z5 y0 y1 y2 y3 y4 y5
  generalize put6 w7 b0 (.int .i64 a0) (.int .i64 a1) (.slice A2 n2 c2) (.int .i64 a3) (.slice A4 n4 c4) (.int .i64 a5) = w8 at *
  have x0 := B8.cell 0 _ rfl
  have x1 := B8.cell 1 _ rfl
  have x2 := B8.cell 2 _ rfl
  have x3 := B8.cell 3 _ rfl
  have x4 := B8.cell 4 _ rfl
  have x5 := B8.cell 5 _ rfl
  refine bodyPost_ret (v := .agg #[.int .i64 a0, .int .i64 a1, .slice A2 n2 c2, .int .i64 a3, .slice A4 n4 c4, .int .i64 a5]) ?_ rfl ?_
  · simp [results, Tryd.results80, go_sem, x0, x1, x2, x3, x4, x5]
  · clear x0 x1 x2 x3 x4 x5 B8
    have hL := HL.out
    have hI := HI.out
    have o7 : Only (fun _ => False) w6 w7 := Only.of_below HB7.out
    have h6 := R_only (R_only R26.out o7 (fun _ q => q.elim)) O8 (fun k q => by omega)
    have h7 := R_only (R_only R46.out o7 (fun _ q => q.elim)) O8 (fun k q => by omega)
    exact ⟨own_only (O6.out.trans (Only.of_below HB7.out)) O8 (by omega), ⟨_, _, rfl, Kd.R_lower h6 hI.2.2, Kd.R_lower h7 hI.2.2⟩, (X6.out.below HB7.out).only O8 (by omega) (by have := X6.out.lo; omega)⟩
set_option maxHeartbeats 2000000 in
set_option maxRecDepth 100000 in
theorem next_else {w0 w : World} {rb : Nat} {k : Int} {t : List Int} (h : Rdx w0 w rb (k :: t)) (hk : k ≠ 0 ∧ k ≠ 1 ∧ k ≠ 2 ∧ k ≠ 6 ∧ k ≠ 7 ∧ k ≠ 8 ∧ k ≠ 28 ∧ k ≠ 30) :
    Calls Tryd.prog 80 #[.pointer (some ⟨rb, 0, none⟩)] w (FrmP w0 w rb (next (k :: t))) := by
  have hmf : ∀ (fn : Fn) (first cap : Array Value) (w : World), (Instr.makeFunc fn first cap).run Tryd.prog w = .ok (.func fn first cap) w := fun _ _ _ _ => rfl
  have hmm := @run_makeMap Tryd.prog
  have TB := Tbl.mk' w rb
  have i0 := TB.i0
  have i1 := TB.i1
  have i2 := TB.i2
  have i3 := TB.i3
  have i4 := TB.i4
  have i5 := TB.i5
  have i6 := TB.i6
  have i7 := TB.i7
  clear TB
  have hb2 : Below w.heap.size w ((w.alloc (.cells #[.int .i64 0, .int .i64 0, .slice none 0 0, .int .i64 0, .slice none 0 0, .int .i64 0] 58)).alloc (.map #[{ key := .int .u8 0, val := .func (.func 97) #[.pointer (some ⟨rb, 0, none⟩)] #[], born := 0 }, { key := .int .u8 1, val := .func (.func 98) #[.pointer (some ⟨rb, 0, none⟩)] #[], born := 1 }, { key := .int .u8 2, val := .func (.func 99) #[.pointer (some ⟨rb, 0, none⟩)] #[], born := 2 }, { key := .int .u8 6, val := .func (.func 100) #[.pointer (some ⟨rb, 0, none⟩)] #[], born := 3 }, { key := .int .u8 7, val := .func (.func 101) #[.pointer (some ⟨rb, 0, none⟩)] #[], born := 4 }, { key := .int .u8 8, val := .func (.func 102) #[.pointer (some ⟨rb, 0, none⟩)] #[], born := 5 }, { key := .int .u8 28, val := .func (.func 103) #[.pointer (some ⟨rb, 0, none⟩)] #[], born := 6 }, { key := .int .u8 30, val := .func (.func 104) #[.pointer (some ⟨rb, 0, none⟩)] #[], born := 7 }] 8)) := below_alloc (below_alloc (Below.refl _ _) _) _
  have HC := bytes_post (h.below hb2) 1 (by omega)
  rw [rbyt_one] at HC
  have HCA := Aside0.mk HC
  have HF := Aside0.mk (fun (w3 : World) ho => front (w3 := w3) h (.map #[{ key := .int .u8 0, val := .func (.func 97) #[.pointer (some ⟨rb, 0, none⟩)] #[], born := 0 }, { key := .int .u8 1, val := .func (.func 98) #[.pointer (some ⟨rb, 0, none⟩)] #[], born := 1 }, { key := .int .u8 2, val := .func (.func 99) #[.pointer (some ⟨rb, 0, none⟩)] #[], born := 2 }, { key := .int .u8 6, val := .func (.func 100) #[.pointer (some ⟨rb, 0, none⟩)] #[], born := 3 }, { key := .int .u8 7, val := .func (.func 101) #[.pointer (some ⟨rb, 0, none⟩)] #[], born := 4 }, { key := .int .u8 8, val := .func (.func 102) #[.pointer (some ⟨rb, 0, none⟩)] #[], born := 5 }, { key := .int .u8 28, val := .func (.func 103) #[.pointer (some ⟨rb, 0, none⟩)] #[], born := 6 }, { key := .int .u8 30, val := .func (.func 104) #[.pointer (some ⟨rb, 0, none⟩)] #[], born := 7 }] 8) ho)
  have HL := Aside0.mk (show rb < w.heap.size ∧ w0.heap.size ≤ rb from ⟨h.lt, h.lo⟩)
  generalize hres : next (k :: t) = res
  clear HC hb2 h
  have hnone : Instr.findNow (.int .u8) (.int .u8 k) [{ key := .int .u8 0, val := .func (.func 97) #[.pointer (some ⟨rb, 0, none⟩)] #[], born := 0 }, { key := .int .u8 1, val := .func (.func 98) #[.pointer (some ⟨rb, 0, none⟩)] #[], born := 1 }, { key := .int .u8 2, val := .func (.func 99) #[.pointer (some ⟨rb, 0, none⟩)] #[], born := 2 }, { key := .int .u8 6, val := .func (.func 100) #[.pointer (some ⟨rb, 0, none⟩)] #[], born := 3 }, { key := .int .u8 7, val := .func (.func 101) #[.pointer (some ⟨rb, 0, none⟩)] #[], born := 4 }, { key := .int .u8 8, val := .func (.func 102) #[.pointer (some ⟨rb, 0, none⟩)] #[], born := 5 }, { key := .int .u8 28, val := .func (.func 103) #[.pointer (some ⟨rb, 0, none⟩)] #[], born := 6 }, { key := .int .u8 30, val := .func (.func 104) #[.pointer (some ⟨rb, 0, none⟩)] #[], born := 7 }] 0 = some none := by
    obtain ⟨h0, h1, h2, h6, h7, h8, h28, h30⟩ := hk
    have e0 : (k == 0) = false := by simpa using h0
    have e1 : (k == 1) = false := by simpa using h1
    have e2 : (k == 2) = false := by simpa using h2
    have e6 : (k == 6) = false := by simpa using h6
    have e7 : (k == 7) = false := by simpa using h7
    have e8 : (k == 8) = false := by simpa using h8
    have e28 : (k == 28) = false := by simpa using h28
    have e30 : (k == 30) = false := by simpa using h30
    simp only [Instr.findNow, Instr.sameNow, e0, e1, e2, e6, e7, e8, e28, e30, if_true]
  obtain rfl : none = res := by rw [← hres]; unfold next body; simp [hk]
  have HNN := Aside0.mk hnone
  clear hnone hk hres
  go_enter Tryd.func80, Tryd.ntmps80
  go_upto_region 2 with (go_at_call 105; refine HCA.out.mono ?_; rintro e1 w3 ⟨ho, v1, rfl, hR, hx⟩; obtain ⟨A1, c1, rfl, hl1, hC⟩ := Kd.R_reads hR; obtain ⟨ad, rfl, hc⟩ := Kd.at_int hC 0 (by omega) (by simp); simp only [rd, Int.toNat_zero, List.getD_cons_zero] at hc; rw [show ad.add 0 = ad from rfl] at hc; obtain ⟨hblk, hon, hmap, hsz⟩ := HF.out w3 ho; have hlook := look_none w3 (w.heap.size + 1) #[{ key := .int .u8 0, val := .func (.func 97) #[.pointer (some ⟨rb, 0, none⟩)] #[], born := 0 }, { key := .int .u8 1, val := .func (.func 98) #[.pointer (some ⟨rb, 0, none⟩)] #[], born := 1 }, { key := .int .u8 2, val := .func (.func 99) #[.pointer (some ⟨rb, 0, none⟩)] #[], born := 2 }, { key := .int .u8 6, val := .func (.func 100) #[.pointer (some ⟨rb, 0, none⟩)] #[], born := 3 }, { key := .int .u8 7, val := .func (.func 101) #[.pointer (some ⟨rb, 0, none⟩)] #[], born := 4 }, { key := .int .u8 8, val := .func (.func 102) #[.pointer (some ⟨rb, 0, none⟩)] #[], born := 5 }, { key := .int .u8 28, val := .func (.func 103) #[.pointer (some ⟨rb, 0, none⟩)] #[], born := 6 }, { key := .int .u8 30, val := .func (.func 104) #[.pointer (some ⟨rb, 0, none⟩)] #[], born := 7 }] 8 k hmap HNN.out; have X3 := Aside0.mk hx; have Z3 := Aside0.mk hblk; have O3 := Aside0.mk hon; have S3 := Aside0.mk hsz; clear ho hR hx hC hl1 hblk hon hmap hsz)
  have hneq : (binOp .neq 129 .nilFunc .nilFunc).run Tryd.prog w3 = .ok (.bool false) w3 := neq_nil w3
  clear i0 i1 i2 i3 i4 i5 i6 i7 hmf hmm HCA HF
  go_wp2_with (go_at_call 79; refine (need_bad _).mono ?_; rintro e1 w4 ⟨rfl, rfl⟩)
  exact ⟨rfl, O3.out, rfl⟩
end Go.Proofs.YtbcleckapamicaaDoor.Fd
namespace Go.Proofs.YtbcleckapamicaaDoor.Fd
open Go Go.RowKit Go.Proofs.YtbcleckapamicaaDoorW.PrintWords Go.Proofs.YtbcleckapamicaaDoorW.PrintLast Go.Proofs.YtbcleckapamicaaDoorW.PrintMore
open Go.Proofs.YtbcleckapamicaaDoor.QFr (S58 S103 k58 k103)
open Go.Proofs.YtbcleckapamicaaDoor.Onl (Only)
open Go.Proofs.YtbcleckapamicaaDoor.Vn (vread vsize num)
set_option linter.unusedVariables false
set_option linter.unusedSimpArgs false
theorem rnum_len {l x : List Int} {n : Int} (h : rnum l = some (n, x)) : x.length ≤ l.length := by
  unfold rnum at h
  split at h
  · injection h with h; injection h with _ h; rw [← h]; simp
  · cases h
theorem rbyt_len {l x d : List Int} {n : Int} (h : rbyt l n = some (d, x)) : x.length ≤ l.length := by
  unfold rbyt at h
  split at h
  · injection h with h; injection h with _ h; rw [← h]; simp
  · cases h
theorem rtrm_len {l x : List Int} {n : Int} (h : rtrm l = some (n, x)) : x.length ≤ l.length := by
  unfold rtrm at h
  split at h
  · injection h with h; injection h with _ h; rw [← h]; simp
  · cases h
theorem padF_len : ∀ l : List Int, (padF l).2.length ≤ l.length := by
  intro l
  induction l with
  | nil => simp [padF]
  | cons a t ih =>
    rw [padF]
    split
    · simp; omega
    · simp
theorem spanF_len {tp : Int} {l : List Int} {s : S103 × List Int} (h : spanF tp l = some s) : s.2.length ≤ l.length := by
  unfold spanF at h
  obtain ⟨⟨n, x⟩, hn, h⟩ := Option.bind_eq_some_iff.1 h
  simp only [] at h
  split at h
  · injection h with h; subst h; exact rnum_len hn
  · cases h
theorem gapF_len {tp : Int} {l : List Int} {s : Int × List Int} (h : gapF tp l = some s) : s.2.length ≤ l.length := by
  unfold gapF at h
  obtain ⟨⟨n, x⟩, hn, h⟩ := Option.bind_eq_some_iff.1 h
  simp only [] at h
  split at h
  · injection h with h; subst h; exact rnum_len hn
  · cases h
theorem ackF_rest : ∀ (d : Nat) (p : Int) (l : List Int) (s : List S103) (r : List Int), ackF d p l = some (s, r) → r.length ≤ l.length := by
  intro d
  induction d with
  | zero => intro p l s r h; injection h with h; injection h with _ h; subst h; exact Nat.le_refl _
  | succ d ih =>
    intro p l s r h
    rw [ackF] at h
    obtain ⟨g, hg, h⟩ := Option.bind_eq_some_iff.1 h
    obtain ⟨sp, hs, h⟩ := Option.bind_eq_some_iff.1 h
    obtain ⟨⟨t, r'⟩, ht, h⟩ := Option.map_eq_some_iff.1 h
    injection h with _ h
    subst h
    exact Nat.le_trans (ih _ _ _ _ ht) (Nat.le_trans (spanF_len hs) (gapF_len hg))
theorem ackR_rest {l r : List Int} {s : List S103} (h : ackR l = some (s, r)) : r.length ≤ l.length := by
  unfold ackR at h
  obtain ⟨⟨a, l1⟩, h1, h⟩ := Option.bind_eq_some_iff.1 h
  obtain ⟨⟨m, l2⟩, h2, h⟩ := Option.bind_eq_some_iff.1 h
  simp only [] at h
  split at h
  · obtain ⟨sp, hs, h⟩ := Option.bind_eq_some_iff.1 h
    obtain ⟨⟨t, r'⟩, ht, h⟩ := Option.map_eq_some_iff.1 h
    injection h with _ h
    subst h
    exact Nat.le_trans (ackF_rest _ _ _ _ _ ht) (Nat.le_trans (spanF_len hs) (Nat.le_trans (rnum_len h2) (rnum_len h1)))
  · cases h
theorem body_rest {k : Int} {l x : List Int} {f : S58} (h : body k l = some (f, x)) : x.length ≤ l.length := by
  unfold body at h
  split at h
  · injection h with h; injection h with _ h; subst h; exact padF_len l
  split at h
  · injection h with h; injection h with _ h; subst h; exact Nat.le_refl _
  split at h
  · injection h with h; injection h with _ h; subst h; exact Nat.le_refl _
  split at h
  · obtain ⟨⟨s, r⟩, ha, h⟩ := Option.map_eq_some_iff.1 h
    injection h with _ h; subst h
    exact ackR_rest ha
  split at h
  · obtain ⟨⟨a, l1⟩, h1, h⟩ := Option.bind_eq_some_iff.1 h
    obtain ⟨⟨n, l2⟩, h2, h⟩ := Option.bind_eq_some_iff.1 h
    obtain ⟨⟨d, l3⟩, h3, h⟩ := Option.map_eq_some_iff.1 h
    injection h with _ h; subst h
    exact Nat.le_trans (rbyt_len h3) (Nat.le_trans (rnum_len h2) (rnum_len h1))
  split at h
  · obtain ⟨⟨d, l1⟩, h1, h⟩ := Option.map_eq_some_iff.1 h
    injection h with _ h; subst h; exact rtrm_len h1
  split at h
  · obtain ⟨⟨a, l1⟩, h1, h⟩ := Option.bind_eq_some_iff.1 h
    obtain ⟨⟨d, l2⟩, h2, h⟩ := Option.map_eq_some_iff.1 h
    injection h with _ h; subst h
    exact Nat.le_trans (rtrm_len h2) (rnum_len h1)
  split at h
  · obtain ⟨⟨d, l1⟩, h1, h⟩ := Option.map_eq_some_iff.1 h
    injection h with _ h; subst h; exact rnum_len h1
  · cases h
theorem next_rest {k : Int} {t x : List Int} {f : S58} (h : next (k :: t) = some (f, x)) : x.length ≤ t.length := by
  rw [next] at h
  obtain ⟨⟨g, y⟩, hb, h⟩ := Option.bind_eq_some_iff.1 h
  simp only [] at h
  split at h
  · injection h with h; injection h with _ h; subst h; exact body_rest hb
  · cases h
theorem next_post {w0 w : World} {rb : Nat} {k : Int} {t : List Int} (h : Rdx w0 w rb (k :: t)) :
    Calls Tryd.prog 80 #[.pointer (some ⟨rb, 0, none⟩)] w (FrmP w0 w rb (next (k :: t))) := by
  by_cases h0 : k = 0
  · subst h0; exact next_padding h
  by_cases h1 : k = 1
  · subst h1; exact next_ping h
  by_cases h2 : k = 2
  · subst h2; exact next_ack h
  by_cases h6 : k = 6
  · subst h6; exact next_crypto h
  by_cases h7 : k = 7
  · subst h7; exact next_token h
  by_cases h8 : k = 8
  · subst h8; exact next_data h
  by_cases h28 : k = 28
  · subst h28; exact next_closed h
  by_cases h30 : k = 30
  · subst h30; exact next_done h
  exact next_else h ⟨h0, h1, h2, h6, h7, h8, h28, h30⟩
def fread (l : List Int) : List S58 × Int :=
  if 1200 < l.length then ([], 4) else match (if l = [] then none else frames (l.length + 1) l) with
    | none => ([], 3)
    | some L => (L, 0)
theorem boxed_only {p : Nat → Prop} {W W' : World} {B t : Nat} {u : Value} (h : Boxed W B t u) (ho : Only p W W') (hp : ¬ p B) : Boxed W' B t u := (ho.block B h.lt hp).trans h
set_option maxRecDepth 100000 in
theorem catch_idle (h0 h1 : Nat) (w : World) :
    CallsD Tryd.prog 78 #[.pointer (some ⟨h0, 0, none⟩), .pointer (some ⟨h1, 0, none⟩)] .returning w fun e u' w' => e = .returned (.tuple #[]) ∧ u' = .returning ∧ w' = w := by
  refine callsD_of_wpS Tryd.func78 rfl fun c₀ cs hu => ?_
  simp only [Tryd.ntmps78, List.size_toArray, List.length_cons, List.length_nil, Nat.reduceAdd, Nat.reduceSub, Array.replicate_succ, Array.replicate_zero, List.push_toArray, List.append_toArray, List.nil_append, List.cons_append]
  apply wpS_seq
  apply wpS_region
  simp [wpOpsS, go_sem, recoverD, hu, Exit.thenS]
  refine wpS_of_wp ?_
  go_wp2
  cases c₀
  simp_all [bodyPostS, results, Tryd.results78]
set_option maxHeartbeats 2000000 in
set_option maxRecDepth 100000 in
theorem catch_panicking {h0 h1 : Nat} {w : World} {v : Value} {e0 : Int} (hA : Boxed w h0 66 v) (hB : Boxed w h1 29 (.int .i64 e0)) (lay : h0 < h1) :
    CallsD Tryd.prog 78 #[.pointer (some ⟨h0, 0, none⟩), .pointer (some ⟨h1, 0, none⟩)] (.panicking wr) w fun en u' w' =>
      en = .returned (.tuple #[]) ∧ u' = .panicking [{ v := .iface 123 (.agg #[]), recovered := true }] ∧ Boxed w' h0 66 (.slice none 0 0) ∧ Boxed w' h1 29 (.int .i64 3) ∧ Only (fun k => k = h0 ∨ k = h1) w w' := by
  unfold wr
  refine callsD_of_wpS Tryd.func78 rfl fun c₀ cs hu => ?_
  simp only [Tryd.ntmps78, List.size_toArray, List.length_cons, List.length_nil, Nat.reduceAdd, Nat.reduceSub, Array.replicate_succ, Array.replicate_zero, List.push_toArray, List.append_toArray, List.nil_append, List.cons_append]
  apply wpS_seq
  apply wpS_region
  simp [wpOpsS, go_sem, recoverD, hu, Exit.thenS]
  refine wpS_of_wp ?_
  have hta : ∀ W : World, (Instr.typeAssert (.iface 123 (.agg #[])) 20 123 true).run Tryd.prog W = .ok (.tuple #[.agg #[], .bool true]) W := fun W => by kernel_rfl
  have HA := Aside0.mk hA
  have HB := Aside0.mk hB
  have HY := Aside0.mk lay
  clear hA hB lay
  go_upto_region 5 with (fail)
  have hA := HA.out.alloc (.cells #[] 123)
  have hB := HB.out.alloc (.cells #[] 123)
  have O1 := Aside0.mk ((Only.refl (fun k => k = h0 ∨ k = h1) w).alloc (.cells #[] 123))
  have c1 := hA.cell
  have c2 := hB.cell
  have g1 := hA.frozen
  have g2 := hB.frozen
  have hy := HY.out
  have n1 : ¬ (h0 = h1) := by omega
  have n2 : ¬ (h1 = h0) := by omega
  have HA1 := Aside0.mk hA
  have HB1 := Aside0.mk hB
  clear hA hB hta hy HA HB
  generalize w.alloc (.cells #[] 123) = wa at *
  go_wp2
  have hy := HY.out
  have oA := (Only.refl (fun k => k = h0) wa).setCell (ad := ⟨h0, 0, none⟩) rfl (.slice none 0 0)
  have oB := (Only.refl (fun k => k = h1) (wa.setCell ⟨h0, 0, none⟩ (.slice none 0 0))).setCell (ad := ⟨h1, 0, none⟩) rfl (.int .i64 3)
  exact ⟨rfl, _, rfl, _, results_none rfl _ _ _, rfl, rfl, boxed_only (HA1.out.set (.slice none 0 0)) oB (by omega), (boxed_only HB1.out oA (by omega)).set (.int .i64 3), O1.out.trans ((oA.imp (fun k _ q => Or.inl q)).trans (oB.imp (fun k _ q => Or.inr q)))⟩
theorem leaves_congr {P : Program} {fn : Func} {t t' : Array Value} (he : results fn t' = results fn t) {R : Ending → World → Prop} : ∀ (ds : List Deferred) (u : FrameMode) (w : World), Leaves P fn t' R ds u w → Leaves P fn t R ds u w := by
  intro ds
  induction ds with
  | nil =>
    intro u w h
    cases u with
    | returning => obtain ⟨v, hv, hr⟩ := h; exact ⟨v, by rw [← he]; exact hv, hr⟩
    | panicking c => exact h
    | run => exact h
  | cons d ds ih =>
    intro u w h
    obtain ⟨hu, fv, cap, f, args, h1, h2, h3⟩ := h
    refine ⟨hu, fv, cap, f, args, h1, h2, h3.mono ?_⟩
    intro e u' w' hh
    cases e with
    | returned v => exact ih _ _ hh
    | panicked c => exact ih _ _ hh
    | outgrown => exact hh
theorem res_put (t : Array Value) (i : Nat) (v : Value) (h2 : i ≠ 2) (h3 : i ≠ 3) : results Tryd.f54 (t.setIfInBounds i v) = results Tryd.f54 t := by
  have g2 : (t.setIfInBounds i v)[2]? = t[2]? := by rw [Array.getElem?_setIfInBounds, if_neg h2]
  have g3 : (t.setIfInBounds i v)[3]? = t[3]? := by rw [Array.getElem?_setIfInBounds, if_neg h3]
  simp [results, Tryd.results54, g2, g3]
theorem callP_ {P : Program} {ops : Array Oper} {Q : Exit → Act → World → Prop} {oi : Oper} {N : Option Tmp} {a : Act} {w : World} {K : Act → World → Prop} {f : FuncId} {fn : Func} {xs : Array Operand} {ts : Array TypeId} (hf : P.funcs[f]? = some fn) (hname : (fn.name == "runtime.NumGoroutine") = false) (hb : fn.body.isSome = true) (args : Array Value)
    (hw : Region.wanted oi (yielded ops a.tmps) = true) (hN : oi.dst = N) (hop : oi.op = .call { callee := .value (.func f), args := xs, argTypes := ts }) (hargs : xs.map a.eval = args)
    (h : Calls P f args w fun e w' => (∃ v, e = .returned v ∧ K (a.put N v) w') ∨ (∃ c, e = .panicked c ∧ Q (.panic c) a w')) : if Region.wanted oi (yielded ops a.tmps) = true then Oper.wp P oi a w K Q else K (a.put N undef) w := by
  have he := enters_ hf hname hb args w
  have hrun : (execOp a.eval oi).run P w = .ok (.enter f args) w := by
    unfold execOp
    simp [hop, resolve, Deferred.ofValue, invoke, Act.eval, hargs, he]
  rw [if_pos hw]
  subst hN
  unfold Oper.wp
  rw [hrun, Oper.upon_enter]
  refine h.mono fun e w'' hh => ?_
  rcases hh with ⟨v, rfl, hk⟩ | ⟨c, rfl, hk⟩
  · exact hk
  · exact hk
end Go.Proofs.YtbcleckapamicaaDoor.Fd
namespace Go.Proofs.YtbcleckapamicaaDoor.Fd
open Go Go.RowKit Go.Proofs.YtbcleckapamicaaDoorW.PrintWords Go.Proofs.YtbcleckapamicaaDoorW.PrintLast Go.Proofs.YtbcleckapamicaaDoorW.PrintMore
open Go.Proofs.YtbcleckapamicaaDoor.QFr (S58 S103 k58 k103 k58_mkM)
open Go.Proofs.YtbcleckapamicaaDoor.Onl (Only)
open Go.Proofs.YtbcleckapamicaaDoor.Vn (vread vsize num)
set_option linter.unusedVariables false
set_option linter.unusedSimpArgs false
theorem info58 : (Tryd.prog.info? 58).map (fun i => (i.zero, i.size, i.bytes)) = some (some (.agg #[.int .i64 0, .int .i64 0, .slice none 0 0, .int .i64 0, .slice none 0 0, .int .i64 0]), 6, 80) := by kernel_rfl
theorem S_only {α : Type} {d : Kd α} {e base : Nat} {p : Nat → Prop} {W W' : World} {v : Value} {xs : List α} (h : Kd.S d e W base (fun _ => True) v xs) (ho : Only p W W') (hp : ∀ k, p k → k < base) : Kd.S d e W' base (fun _ => True) v xs :=
  Kd.S_mono (Kd.S_move (Kd.S_bound h) (fun k hk => ho.block k hk.2.2.1 (fun q => by have := hp k q; have := hk.2.1; omega))) (fun _ _ => trivial)
theorem S_old {α : Type} {d : Kd α} {e base : Nat} {p : Nat → Prop} {W W' : World} {v : Value} {xs : List α} (h : Kd.S d e W base (fun _ => True) v xs) (ho : Only p W W') (hp : ∀ k, p k → k < base) : Kd.S d e W' base (fun k => True ∧ ¬ (W.heap.size ≤ k)) v xs :=
  Kd.S_mono (Kd.S_move (Kd.S_bound h) (fun k hk => ho.block k hk.2.2.1 (fun q => by have := hp k q; have := hk.2.1; omega))) (fun _ hk => ⟨trivial, by have := hk.2.2.1; omega⟩)
def ReadP (w : World) (r : List S58 × Int) (en : Ending) (w' : World) : Prop := ∃ v, en = .returned (.tuple #[v, .int .i64 r.2]) ∧ Kd.S k58 58 w' w.heap.size (fun _ => True) v r.1 ∧ Below w.heap.size w w'
set_option maxHeartbeats 1000000 in
set_option maxRecDepth 100000 in
theorem read_long (w : World) (A : Option Addr) (c : Nat) (l : List Int) (hl : 1200 < l.length) :
    Calls Tryd.prog 54 #[.slice A l.length c] w (ReadP w ([], 4)) := by
  have d0 : decide ((1200 : Int) < (l.length : Int)) = true := decide_eq_true (by omega)
  have d1 : decide (1200 < l.length) = true := decide_eq_true hl
  have HB := Aside0.mk (below_alloc (below_alloc (Below.refl w.heap.size w) (.cells #[.slice none 0 0] 66)) (.cells #[.int .i64 4] 29))
  clear hl
  go_enter_defers Tryd.func54, Tryd.ntmps54
  go_wp2
  have h1 := Boxed.new (w.alloc (.cells #[.slice none 0 0] 66)) 29 (.int .i64 4)
  rw [World.size_alloc] at h1
  have x1 := h1.cell
  have x0 := ((Boxed.new w 66 (.slice none 0 0)).alloc (.cells #[.int .i64 4] 29)).cell
  generalize (w.alloc (.cells #[.slice none 0 0] 66)).alloc (.cells #[.int .i64 4] 29) = w2 at *
  clear h1
  simp [bodyPostD, Leaves, settle, results, Tryd.results54, go_sem, x0, x1]
  exact ⟨_, rfl, Kd.S_nil _ _ _ _ _, HB.out⟩
def rw3 (w : World) (A : Option Addr) (n c : Nat) : World := ((w.alloc (.cells #[.slice none 0 0] 66)).alloc (.cells #[.int .i64 0] 29)).alloc (.cells #[.slice A n c] 127)
theorem rw3_facts (w : World) (A : Option Addr) (c : Nat) (l : List Int) (hC : Kd.C (Kd.int .u8) w A l.length l) (hc : l.length ≤ c) (hl : l.length ≤ 100000) (hB : ∀ x ∈ l, 0 ≤ x ∧ x ≤ 255) :
    Boxed (rw3 w A l.length c) w.heap.size 66 (.slice none 0 0) ∧ Boxed (rw3 w A l.length c) (w.heap.size + 1) 29 (.int .i64 0) ∧ Rd w (rw3 w A l.length c) (w.heap.size + 1 + 1) A c l ∧ (rw3 w A l.length c).heap.size = w.heap.size + 1 + 1 + 1 := by
  have s2 : ((w.alloc (.cells #[.slice none 0 0] 66)).alloc (.cells #[.int .i64 0] 29)).heap.size = w.heap.size + 1 + 1 := by simp only [World.size_alloc]
  have h1 := Boxed.new (w.alloc (.cells #[.slice none 0 0] 66)) 29 (.int .i64 0)
  rw [World.size_alloc] at h1
  refine ⟨((Boxed.new w 66 (.slice none 0 0)).alloc _).alloc _, h1.alloc _, ⟨?_, ?_, by omega, below_alloc (below_alloc (below_alloc (Below.refl _ _) _) _) _, hC, hc, hl, hB⟩, by unfold rw3; simp only [World.size_alloc]⟩
  · unfold rw3; rw [World.cell?_alloc_at _ _ _ _ s2.symm]; rfl
  · unfold rw3; exact World.frozen?_alloc_at _ _ _ _ s2.symm
set_option maxHeartbeats 2000000 in
set_option maxRecDepth 100000 in
theorem read_short (w : World) (A : Option Addr) (c : Nat) (l : List Int) (hC : Kd.C (Kd.int .u8) w A l.length l) (hc : l.length ≤ c) (hl : l.length ≤ 1200) (hB : ∀ x ∈ l, 0 ≤ x ∧ x ≤ 255) (hne : l ≠ []) :
    Calls Tryd.prog 54 #[.slice A l.length c] w (ReadP w (match frames (l.length + 1) l with | none => ([], 3) | some L => (L, 0))) := by
  have hmf : ∀ (fn : Fn) (first cap : Array Value) (w : World), (Instr.makeFunc fn first cap).run Tryd.prog w = .ok (.func fn first cap) w := fun _ _ _ _ => rfl
  have d0 : decide ((1200 : Int) < (l.length : Int)) = false := decide_eq_false (by omega)
  have d1 : decide (1200 < l.length) = false := decide_eq_false (by omega)
  have hpos : 0 < l.length := List.length_pos_iff.mpr hne
  have d2 : decide ((0 : Int) < (l.length : Int)) = true := decide_eq_true (by omega)
  have d3 : decide (0 < l.length) = true := decide_eq_true hpos
  have HC := Aside0.mk hC
  have HB := Aside0.mk hB
  have HL := Aside0.mk hl
  have HCc := Aside0.mk hc
  generalize hres : (match frames (l.length + 1) l with | none => (([] : List S58), (3 : Int)) | some L => (L, 0)) = res
  have HRES := Aside0.mk hres
  clear hC hB hl hc hne hpos hres
  go_enter_defers Tryd.func54, Tryd.ntmps54
  go_upto_region 5 with (fail)
  change Code.wp _ _ _ _ (rw3 w A l.length c)
  obtain ⟨hA, hE, hR, hsz⟩ := rw3_facts w A c l HC.out HCc.out (by have := HL.out; omega) HB.out
  generalize rw3 w A l.length c = w3 at *
  obtain ⟨h1, e1⟩ : ∃ h1, w.heap.size + 1 = h1 := ⟨_, rfl⟩
  rw [e1] at hE hR hsz ⊢
  obtain ⟨rb, e2⟩ : ∃ rb, h1 + 1 = rb := ⟨_, rfl⟩
  rw [e2] at hR hsz ⊢
  obtain ⟨h0, e0⟩ : ∃ h0, w.heap.size = h0 := ⟨_, rfl⟩
  rw [e0] at hA ⊢
  have LY := Aside0.mk (show w.heap.size = h0 ∧ h0 < h1 ∧ h1 < rb ∧ w3.heap.size = rb + 1 by omega)
  have BA := Aside0.mk hA
  have BE := Aside0.mk hE
  have RD := Aside0.mk hR
  clear e0 e1 e2 hA hE hR hsz hmf
  go_wp2_with (go_at_call 79; refine (need_ok _).mono ?_; rintro e1 w1 ⟨rfl, rfl⟩)
  go_loopg [16] l.length (fun gg v16 wr => ∃ (L : List S58) (x : List Int) (v : Value) (f : Nat), x.length ≤ gg ∧ x.length < f ∧ Aside0 (frames (l.length + 1) l = (frames f x).map (L ++ ·)) ∧ Aside0 (Rdx w wr rb x) ∧ Aside0 (Boxed wr h0 66 v) ∧ Aside0 (Boxed wr h1 29 (.int .i64 0)) ∧ Aside0 (Kd.S k58 58 wr (rb + 1) (fun _ => True) v L) ∧ Aside0 (L.length + x.length ≤ l.length) ∧ Aside0 (rb + 1 ≤ wr.heap.size))
  case atStart => exact ⟨[], l, _, l.length + 1, Nat.le_refl _, by omega, ⟨by simp⟩, ⟨_, _, RD.out⟩, BA, BE, ⟨Kd.S_nil _ _ _ _ _⟩, ⟨by simp⟩, ⟨by have := LY.out; omega⟩⟩
  case round =>
    obtain ⟨L, x, v, f, hg, hf, HP, HX, A0, E0, S0, HLn, HS⟩ := hrel
    clear BA BE RD
    obtain ⟨A', c', hx⟩ := HX.out
    have c0 := hx.c0
    have HH := Aside0.mk hx
    obtain ⟨Av, cv, ev⟩ := Kd.R_slice (Kd.S_R S0.out)
    obtain ⟨nv, hnv⟩ : ∃ nv, L.length = nv := ⟨_, rfl⟩
    rw [hnv] at ev
    have HNV := Aside0.mk hnv
    subst ev
    clear hx HX hnv
    obtain ⟨f, rfl⟩ : ∃ m, f = m + 1 := ⟨f - 1, by omega⟩
    cases x with
    | nil =>
      have c0 : wr.cell? ⟨rb, 0, none⟩ = some (.slice A' 0 c') := c0
      obtain rfl : (L, 0) = res := by
        have h1 := HP.out
        rw [frames, Option.map_some, List.append_nil] at h1
        have h2 := HRES.out
        rw [h1] at h2
        exact h2
      have z0 := A0.out.cell
      have z1 := E0.out.cell
      have y0 := A0.out.frozen
      have y1 := E0.out.frozen
      have hy := LY.out
      have n1 : ¬ (h0 = h1) := by omega
      have n2 : ¬ (h1 = h0) := by omega
      clear hg hf HP HLn hy HRES
      go_wp2
      have hy := LY.out
      have oA := (Only.refl (fun k => k = h0) wr).setCell (ad := ⟨h0, 0, none⟩) rfl (.slice Av nv cv)
      have oB := (Only.refl (fun k => k = h1) (wr.setCell ⟨h0, 0, none⟩ (.slice Av nv cv))).setCell (ad := ⟨h1, 0, none⟩) rfl (.int .i64 0)
      have x0 := (boxed_only (A0.out.set (.slice Av nv cv)) oB (by omega)).cell
      have x1 := ((boxed_only E0.out oA (by omega)).set (.int .i64 0)).cell
      have hS := Kd.S_lower (S_only (S_only S0.out oA (fun k q => by omega)) oB (fun k q => by omega)) (show w.heap.size ≤ rb + 1 by omega)
      have hbl := (HH.out.bl.trans (oA.below HH.out.bl.size (fun k q => by omega))).trans (oB.below (by have h1 := HH.out.bl.size; have h2 := oA.size; omega) (fun k q => by omega))
      have HSB := Aside0.mk (And.intro hS hbl)
      clear z0 z1 y0 y1 n1 n2 hy oA oB hS hbl c0
      generalize (wr.setCell ⟨h0, 0, none⟩ (.slice Av nv cv)).setCell ⟨h1, 0, none⟩ (.int .i64 0) = w8 at *
      refine leaves_cons (f := 78) (args := #[.pointer (some ⟨h0, 0, none⟩), .pointer (some ⟨h1, 0, none⟩)]) (by simp) (by simp [go_sem]) ?_
      refine (catch_idle h0 h1 _).mono ?_
      rintro en u' w9 ⟨rfl, rfl, rfl⟩
      simp [Leaves, settle, results, Tryd.results54, go_sem, x0, x1]
      exact ⟨_, rfl, HSB.out.1, HSB.out.2⟩
    | cons k t =>
      have q0 : decide ((0 : Int) < (((k :: t).length : Nat) : Int)) = true := decide_eq_true (Int.natCast_pos.2 (by simp))
      have q1 : decide (0 < (k :: t).length) = true := decide_eq_true (by simp)
      have HG := Aside0.mk hg
      have HF := Aside0.mk hf
      obtain ⟨m, hm⟩ : ∃ m, (k :: t).length = m := ⟨_, rfl⟩
      rw [hm] at q0 q1 c0
      have q2 : (0 : Int) < (m : Int) := by simpa using q0
      have HM := Aside0.mk hm
      clear hg hf hm
      go_upto_region 7 with (fail)
      have z0 := A0.out.cell
      have XD := Aside0.mk (show Rdx w wr.drew rb (k :: t) from ⟨_, _, HH.out.below (below_drew (Below.refl _ _))⟩)
      refine start_ (n := 6) (S := fun w' => w'.cell? ⟨h0, 0, none⟩ = some (.slice Av nv cv)) (ds := [5]) #[false, false, false, false, false, false] (by kernel_rfl) rfl rfl z0 (fun hHeld => ?_)
      refine take_ (i := 0) (N := some 22) (v := ?_) (a' := ?_) #[true, false, false, false, false, false] rfl rfl (by kernel_rfl) (fun c a w h => leaves_congr (res_put a.tmps 22 _ (by decide) (by decide)) _ _ _ h) (Or.inl ⟨by rfl, ?_⟩) hHeld ?_ ?_
      rotate_left
      · intro w' s0
        go_simp
        with_reducible rfl
      rotate_left
      · simp only [Act.put, List.setIfInBounds_toArray, List.set_cons_zero, List.set_cons_succ]
        rfl
      refine pure_ (i := 1) (N := some 23) (v := ?_) (a' := ?_) #[true, true, false, false, false, false] rfl rfl (by kernel_rfl) (fun c a w h => leaves_congr (res_put a.tmps 23 _ (by decide) (by decide)) _ _ _ h) (Or.inl ⟨by rfl, ?_⟩) ?_ ?_
      rotate_left
      · intro w'
        go_simp
        with_reducible rfl
      rotate_left
      · simp only [Act.put, List.setIfInBounds_toArray, List.set_cons_zero, List.set_cons_succ]
        rfl
      refine one_ (i := 2) (N := some 24) #[true, true, true, false, false, false] rfl rfl (by kernel_rfl) (by decide) (fun K hK => ?_)
      refine callP_ Tryd.func80 (by kernel_rfl) rfl #[.pointer (some ⟨rb, 0, none⟩)] (by rfl) rfl rfl (by simp only [List.map_toArray, List.map_cons, List.map_nil]; rfl) ?_
      refine (next_post XD.out).mono ?_
      rcases hn : next (k :: t) with _ | ⟨fr, y⟩
      · rintro e1 w5 ⟨ho, rfl⟩
        refine .inr ⟨_, rfl, ?_⟩
        obtain rfl : ([], 3) = res := by
          have h1 := HP.out
          rw [frames, hn] at h1
          have h2 := HRES.out
          rw [h1] at h2
          exact h2
        refine leaves_cons (f := 78) (args := #[.pointer (some ⟨h0, 0, none⟩), .pointer (some ⟨h1, 0, none⟩)]) (by simp) (by simp [go_sem]) ?_
        have hy := LY.out
        have oD : Only (fun k => k = rb) wr w5 := ((Only.refl (fun k => k = rb) wr).drew).trans ho
        have hbl := HH.out.bl.trans (oD.below HH.out.bl.size (fun k q => by omega))
        have a5 := boxed_only A0.out oD (by omega)
        have b5 := boxed_only E0.out oD (by omega)
        refine (catch_panicking a5 b5 (by omega)).mono ?_
        rintro en u' w9 ⟨rfl, rfl, a9, b9, o9⟩
        have x0 := a9.cell
        have x1 := b9.cell
        have hbl2 := hbl.trans (o9.below hbl.size (fun k q => by omega))
        simp [Leaves, settle, results, Tryd.results54, go_sem, x0, x1]
        exact ⟨_, rfl, Kd.S_nil _ _ _ _ _, hbl2⟩
      · rintro e1 w5 ⟨ho, ⟨v2, v4, rfl, hR2, hR4⟩, hx⟩
        have hy := LY.out
        have oD : Only (fun k => k = rb) wr w5 := ((Only.refl (fun k => k = rb) wr).drew).trans ho
        have hS5 := S_old S0.out oD (fun k q => by omega)
        have A5 := Aside0.mk (boxed_only A0.out oD (by omega))
        have E5 := Aside0.mk (boxed_only E0.out oD (by omega))
        have S5 := Aside0.mk hS5
        have hls := Kd.S_lt S0.out
        have hz5 : wr.heap.size ≤ w5.heap.size := oD.size
        have HZ5 := Aside0.mk (And.intro hz5 (show rb + 1 ≤ w5.heap.size by have := HS.out; omega))
        have R2 := Aside0.mk (show Kd.R k103 103 w5 (rb + 1) (fun j => wr.heap.size ≤ j) v2 fr.f2 from Kd.R_lower (Kd.R_mono (Kd.R_bound hR2) (fun j hj => hj.2.1)) (by have := HS.out; show rb + 1 ≤ wr.drew.heap.size; exact this))
        have R4 := Aside0.mk (show Kd.R (Kd.int .u8) 5 w5 (rb + 1) (fun j => wr.heap.size ≤ j) v4 fr.f4 from Kd.R_lower (Kd.R_mono (Kd.R_bound hR4) (fun j hj => hj.2.1)) (by have := HS.out; show rb + 1 ≤ wr.drew.heap.size; exact this))
        have HLS := Aside0.mk hls
        have X5 := Aside0.mk hx
        have HN := Aside0.mk hn
        have z5 := A5.out.cell
        clear hR2 hR4 hx ho oD hS5 hls hz5 hy hn
        refine .inl ⟨_, rfl, hK.out _ _ z5 (fun hHeld => ?_)⟩
        clear hK K
        refine norm_ (a' := ?_) ?_ ?_
        rotate_left
        · show Act.put _ (some 24) _ = _
          simp only [Act.put, List.setIfInBounds_toArray, List.set_cons_zero, List.set_cons_succ]
          rfl
        refine one_ (i := 3) (N := some 25) #[true, true, true, true, false, false] rfl rfl (by kernel_rfl) (by decide) (fun K hK => ?_)
        refine value_ (w1 := ?_) (v := ?_) (by rfl) rfl ?_ ?_
        rotate_left 2
        · go_simp
          constructor
          · rfl
          · rfl
        refine hK.out _ _ (pw_cell_below (below_alloc (Below.refl _ _) _) z5) (fun hHeld2 => ?_)
        clear hK K
        refine norm_ (a' := ?_) ?_ ?_
        rotate_left
        · show Act.put _ (some 25) _ = _
          simp only [Act.put, List.setIfInBounds_toArray, List.set_cons_zero, List.set_cons_succ]
          rfl
        refine one_ (i := 4) (N := some 26) #[true, true, true, true, true, false] rfl rfl (by kernel_rfl) (by decide) (fun K hK => ?_)
        refine Kd.S_append_step k58 (w0 := w5) (rb + 1) (by rfl) (.tmp 22) (.tmp 25) 66 58 (.agg #[.int .i64 0, .int .i64 0, .slice none 0 0, .int .i64 0, .slice none 0 0, .int .i64 0]) 80 rfl Tryd.underlying66 info58 rfl (by decide) (by omega) (.slice Av nv cv) L fr [.int .i64 fr.f0, .int .i64 fr.f1, v2, .int .i64 fr.f3, v4, .int .i64 fr.f5] (fun _ => True) (fun j => wr.heap.size ≤ j) rfl rfl ?aP ?aQ (fun _ _ => trivial) ?aO (Below.refl _ _) HZ5.out.2 ?aL ?_
        (case aP => exact k58_mkM _ _ _ fr R2.out R4.out)
        (case aQ => exact fun j hj => ⟨trivial, fun e => by have := HLS.out j e.symm; omega⟩)
        (case aO => exact S5.out)
        (case aL => have h1 := HLn.out; have h2 := HL.out; omega)
        intro v1 w6 hS6 hb6 hg6 hat6
        obtain ⟨A9, c9, e9⟩ := Kd.R_slice (Kd.S_R hS6)
        obtain ⟨n9, hn9⟩ : ∃ n9, (L ++ [fr]).length = n9 := ⟨_, rfl⟩
        rw [hn9] at e9
        clear hn9
        subst e9
        have hy := LY.out
        have o6 : Only (fun k => rb + 1 ≤ k) w5 w6 := (Only.refl _ w5).grown hg6 (fun k e => .inl (Kd.S_base S0.out k e))
        have A6 := Aside0.mk (boxed_only A5.out o6 (by omega))
        have E6 := Aside0.mk (boxed_only E5.out o6 (by omega))
        have S6 := Aside0.mk hS6
        have O6 := Aside0.mk o6
        have z6 := A6.out.cell
        have y6 := A6.out.frozen
        clear hS6 hb6 hg6 hat6 o6 hy A5 E5
        refine hK.out _ _ z6 (fun hHeld3 => ?_)
        clear hK K
        refine norm_ (a' := ?_) ?_ ?_
        rotate_left
        · show Act.put _ (some 26) _ = _
          simp only [Act.put, List.setIfInBounds_toArray, List.set_cons_zero, List.set_cons_succ]
          rfl
        refine last_ (i := 5) (N := none) #[true, true, true, true, true, true] rfl rfl (by kernel_rfl) (by decide) (fun K hK => ?_)
        refine skip_ (w1 := ?_) (by rfl) rfl ?_ ?_
        rotate_left
        · go_simp
          rfl
        refine hK.out _ _ ?_
        clear hK K
        refine done_ (by kernel_rfl) ?_
        clear z0 z5 z6 y6 hHeld hHeld2 hHeld3
        go_wp2
        go_roundg y.length
        case measure => have h1 := next_rest HN.out; have h2 := HG.out; simp at h2; omega
        case rel =>
          have hy := LY.out
          have o7 := (Only.refl (fun k => k = h0) w6).setCell (ad := ⟨h0, 0, none⟩) rfl (.slice A9 n9 c9)
          have hrest := next_rest HN.out
          refine ⟨L ++ [fr], y, .slice A9 n9 c9, f, Nat.le_refl _, by have := HF.out; simp at this; omega, ⟨?_⟩, ⟨?_⟩, ⟨A6.out.set _⟩, ⟨boxed_only E6.out o7 (by omega)⟩, ⟨S_only S6.out o7 (fun k q => by omega)⟩, ⟨by have := HLn.out; simp at this ⊢; omega⟩, ⟨Nat.le_trans HZ5.out.2 (Nat.le_trans O6.out.size o7.size)⟩⟩
          · have h1 := HP.out
            rw [frames, HN.out, Option.bind_some, Option.map_map] at h1
            rw [h1]
            congr 1
            funext z
            simp
          · obtain ⟨A5, c5, h5⟩ := X5.out
            exact ⟨A5, c5, (h5.only O6.out (fun q => by omega) (fun k q => by omega)).only o7 (fun q => by omega) (fun k q => by omega)⟩
set_option maxHeartbeats 1000000 in
set_option maxRecDepth 100000 in
theorem read_nil (w : World) (A : Option Addr) (c : Nat) :
    Calls Tryd.prog 54 #[.slice A 0 c] w (ReadP w ([], 3)) := by
  have hmf : ∀ (fn : Fn) (first cap : Array Value) (w : World), (Instr.makeFunc fn first cap).run Tryd.prog w = .ok (.func fn first cap) w := fun _ _ _ _ => rfl
  have hf := rw3_facts w none 0 [] (Kd.C_nil _ _) (Nat.le_refl _) (by simp) (fun x hx => by simp at hx)
  go_enter_defers Tryd.func54, Tryd.ntmps54
  go_upto_region 5 with (fail)
  obtain ⟨w3, hw3⟩ : ∃ w3, ((w.alloc (.cells #[.slice none 0 0] 66)).alloc (.cells #[.int .i64 0] 29)).alloc (.cells #[.slice A 0 c] 127) = w3 := ⟨_, rfl⟩
  rw [hw3]
  have hA : Boxed w3 w.heap.size 66 (.slice none 0 0) := by rw [← hw3]; exact ((Boxed.new w 66 (.slice none 0 0)).alloc _).alloc _
  have hE : Boxed w3 (w.heap.size + 1) 29 (.int .i64 0) := by
    rw [← hw3]
    have h1 := Boxed.new (w.alloc (.cells #[.slice none 0 0] 66)) 29 (.int .i64 0)
    rw [World.size_alloc] at h1
    exact h1.alloc _
  have hbl : Below w.heap.size w w3 := by rw [← hw3]; exact below_alloc (below_alloc (below_alloc (Below.refl _ _) _) _) _
  have BA := Aside0.mk hA
  have BE := Aside0.mk hE
  have BL := Aside0.mk hbl
  clear hw3 hA hE hbl hf hmf
  go_wp2_with (go_at_call 79; refine (need_bad _).mono ?_; rintro e1 w1 ⟨rfl, rfl⟩)
  refine leaves_cons (f := 78) (args := #[.pointer (some ⟨w.heap.size, 0, none⟩), .pointer (some ⟨w.heap.size + 1, 0, none⟩)]) (by simp) (by simp [go_sem]) ?_
  refine (catch_panicking BA.out BE.out (by omega)).mono ?_
  rintro en u' w9 ⟨rfl, rfl, a9, b9, o9⟩
  have x0 := a9.cell
  have x1 := b9.cell
  have hbl2 := BL.out.trans (o9.below BL.out.size (fun k q => by omega))
  simp [Leaves, settle, results, Tryd.results54, go_sem, x0, x1]
  exact ⟨_, rfl, Kd.S_nil _ _ _ _ _, hbl2⟩
def frame_Read.f (l0 : List Int) : Option (List S58 × Int) := if l0.length ≤ 100000 ∧ ∀ x ∈ l0, 0 ≤ x ∧ x ≤ 255 then some (fread l0) else none
theorem frame_Read.calls (A0 : Option Addr) (c0 : Nat) (l0 : List Int) (r1 : List S58) (r2 : Int) (w : World) (hr0 : Kd.C (Kd.int .u8) w A0 l0.length l0) (hc0 : l0.length ≤ c0) (h : frame_Read.f l0 = some (r1, r2)) :
    Calls Tryd.prog 54 #[.slice A0 l0.length c0] w fun e w' => ∃ v0_ : Value, e = .returned (.tuple #[v0_, .int .i64 r2]) ∧ Kd.S k58 58 w' w.heap.size (fun _ => True) v0_ r1 ∧ Below w.heap.size w w' := by
  unfold frame_Read.f at h
  split at h
  · rename_i hh
    injection h with h
    have e1 : r1 = (fread l0).1 := by rw [h]
    have e2 : r2 = (fread l0).2 := by rw [h]
    subst e1 e2
    unfold fread
    by_cases h1 : 1200 < l0.length
    · rw [if_pos h1]; exact read_long w A0 c0 l0 h1
    rw [if_neg h1]
    by_cases h2 : l0 = []
    · subst h2; exact read_nil w A0 c0
    rw [if_neg h2]
    exact read_short w A0 c0 l0 hr0 hc0 (by omega) hh.2 h2
  · cases h
end Go.Proofs.YtbcleckapamicaaDoor.Fd
