/- A part of the proof of the law HeaderJoins: Hr5, Hr6, Hr7, VaP, Ri0, Ri1, Ri2, RiP, HsP, QHex0. -/
import Derived.Test.YtpihkmpcnkhnfaaDoorZHj02
import Derived.Recover
import Derived.Defers
import Derived.Test.YtpihkmpcnkhnfaaDoorProg
import Derived.Below
import Derived.Deep.Draws
import Derived.Deep.AppendLies
import Derived.Maps.AppendAt
import Derived.OwnWalk
import Derived.Laws.BytesArg
import Derived.Laws.MakeOwn
import Derived.Laws.OwnMore
import Derived.Deep.OwnRows
import Derived.Tactics
import Derived.Lib.ConvBytes
import Derived.Laws.Slices
import Derived.WalkKit
import Derived.KernelRfl
import Derived.RowKit3
import Derived.Deep.LoopGhost
import Derived.Deep.QuietTactic
import Derived.BigQuiet
import Derived.WideLaws
import Derived.Deep.DeepCutAuto
import Derived.Deep.CutBlock
import Derived.Deep.RegionHeld3
import Derived.Laws.Rows
import Derived.Lib.AppendStr
import Derived.ArgAppend
import Derived.Laws.IdiomCopy
import Derived.OrdersHeld
import Derived.Laws.BitsLemmas
import Derived.RowKit
import Derived.Test.YtpihkmpcnkhnfaaDoorZHj00
import Derived.Test.YtpihkmpcnkhnfaaDoorZHj01
namespace Go.Proofs.YtpihkmpcnkhnfaaDoor.Hr
open Go Go.RowKit Go.Proofs.YtpihkmpcnkhnfaaDoorW.PrintWords Go.Proofs.YtpihkmpcnkhnfaaDoorW.PrintLast Go.Proofs.YtpihkmpcnkhnfaaDoorW.PrintMore
open Go.Proofs.YtpihkmpcnkhnfaaDoor.Onl (Only)
open Go.Proofs.YtpihkmpcnkhnfaaDoor.Vn (vread vsize num)
set_option linter.unusedVariables false
set_option linter.unusedSimpArgs false
def hS21 (l : List Int) (kd ver : Int) (tO fr tk : List Int) (wd n : Int) (p : Nat) : HRes := match rdN l p wd.toNat with
  | .error e => .error e
  | .ok (nm, q) => .ok ((kd, ver, tO, fr, tk, 0, nm, wd), q, (p : Int) + n)
def hS17 (l : List Int) (kd ver : Int) (tO fr tk : List Int) (wd : Int) (p : Nat) : HRes := match rdV l p with
  | .error e => .error e
  | .ok (n, q) => if wd ≤ n then (if n ≤ (l.length : Int) - q then hS21 l kd ver tO fr tk wd n q else .error 2) else .error 3
def hS15 (l : List Int) (kd ver : Int) (tO fr : List Int) (wd : Int) (p : Nat) : HRes := if kd = 0 then (match rdC (rdV l p) l ((64 : Nat) : Int) with
  | .error e => .error e
  | .ok (tk, q) => hS17 l kd ver tO fr tk wd q) else hS17 l kd ver tO fr [] wd p
def hS14 (l : List Int) (kd ver : Int) (tO : List Int) (wd : Int) (p : Nat) : HRes := match rdC (rdN l p 1) l ((20 : Nat) : Int) with
  | .error e => .error e
  | .ok (fr, q) => hS15 l kd ver tO fr wd q
def hS13 (l : List Int) (kd ver : Int) (wd : Int) (p : Nat) : HRes := match rdC (rdN l p 1) l ((20 : Nat) : Int) with
  | .error e => .error e
  | .ok (tO, q) => hS14 l kd ver tO wd q
def hS11 (l : List Int) (kd : Int) (wd : Int) (p : Nat) : HRes := match rdN l p 4 with
  | .error e => .error e
  | .ok (ver, q) => if 0 < ver then hS13 l kd ver wd q else .error 3
def hLong (l : List Int) (f : Int) (p : Nat) : HRes := if f / 4 % 4 = 0 ∧ f / 16 % 4 < 3 then hS11 l (f / 16 % 4) (f % 4 + 1) p else .error 3
theorem rowK {α : Type} {d : Kd α} {e s t : Nat} {p : Nat → Prop} {W W' : World} {v : Value} {xs : List α} (h : d.R e W s (fun k => s ≤ k ∧ k < t) v xs) (ho : Only p W W') (hp : ∀ k, p k → k < s) : d.R e W' s (fun k => s ≤ k ∧ k < t) v xs :=
  Kd.R_mono (Kd.R_move (Kd.R_bound h) (fun k hk => ho.block k hk.2.2.1 (fun q => by have := hp k q; have := hk.2.1; omega))) (fun _ hk => hk.1)
theorem rowB {α : Type} {d : Kd α} {e s : Nat} {W : World} {v : Value} {xs : List α} (h : d.R e W s (fun _ => True) v xs) : d.R e W s (fun k => s ≤ k ∧ k < W.heap.size) v xs :=
  Kd.R_mono (Kd.R_bound h) (fun k hk => ⟨hk.2.1, hk.2.2.1⟩)
set_option maxHeartbeats 16000000 in
set_option maxRecDepth 100000 in
theorem header_long {w0 w : World} {rb : Nat} {A : Option Addr} {c : Nat} {l : List Int} (h : Rdr w0 w rb A c l 0) (f : Int) (hf : rdN l 0 1 = .ok (f, 1)) (h0 : 192 ≤ f) (hlt : f ≤ 255) :
    Calls Tryd.prog 34 #[.pointer (some ⟨rb, 0, none⟩)] w (HeadPost w0 w rb A c l (hLong l f 1)) := by
  have H := num_post (h.below (w' := w.alloc (.cells #[.int .i64 0, .int .i64 0, .slice none 0 0, .slice none 0 0, .slice none 0 0, .int .i64 0, .int .i64 0, .int .i64 0] 33)) (below_alloc (Below.refl _ _) _)) 1 (by omega)
  rw [hf] at H
  have d0 : decide (f < 192) = false := decide_eq_false (by omega)
  obtain ⟨kf, hk⟩ := byte_fin (show 0 ≤ f by omega) hlt
  have a1 := and3 kf
  have a2 := and48 kf
  have a3 := and12 kf
  rw [← hk] at a1 a2 a3
  clear hk kf
  have a4 : wrap64 (f % 4 + 1) = f % 4 + 1 := by unfold wrap64; omega
  have HBZ := Aside0.mk (Blk.new w [.int .i64 0, .int .i64 0, .slice none 0 0, .slice none 0 0, .slice none 0 0, .int .i64 0, .int .i64 0, .int .i64 0])
  have HF := Aside0.mk (show 192 ≤ f ∧ f ≤ 255 from ⟨h0, hlt⟩)
  have HRL := Aside0.mk h.lt
  obtain ⟨r, hr_⟩ : ∃ r, hLong l f 1 = r := ⟨_, rfl⟩
  rw [hr_]
  have HR0 := Aside0.mk hr_
  clear hf h0 hlt h hr_
  go_enter Tryd.func34, Tryd.ntmps34
  go_upto_region 10 with (go_at_call 38; refine H.mono ?_; rintro e1 w1 ⟨rfl, _, _, hr, ho⟩; have HO := Aside0.mk ho; have HR := Aside0.mk hr; clear ho hr)
  clear H a1 a2
  have hne : w.heap.size ≠ rb := by have := HRL.out; omega
  have hsz : w.heap.size < w1.heap.size := Nat.lt_of_lt_of_le (by simp) HO.out.size

  have hr1 := HR.out.below (w' := w1.alloc (.cells #[.int .i64 (f / 16 % 4), .int .i64 0, .slice none 0 0, .slice none 0 0, .slice none 0 0, .int .i64 0, .int .i64 0, .int .i64 (f % 4 + 1)] 33)) (below_alloc (Below.refl _ _) _)
  have hb1 := Blk.new w1 [.int .i64 (f / 16 % 4), .int .i64 0, .slice none 0 0, .slice none 0 0, .slice none 0 0, .int .i64 0, .int .i64 0, .int .i64 (f % 4 + 1)]
  have hz1 := (HBZ.out.only HO.out hne).only ((Only.refl (fun _ => False) w1).alloc (.cells #[.int .i64 (f / 16 % 4), .int .i64 0, .slice none 0 0, .slice none 0 0, .slice none 0 0, .int .i64 0, .int .i64 0, .int .i64 (f % 4 + 1)] 33)) (fun q => q)
  have ho1 := (((Only.refl (fun k => k = rb) w).alloc (.cells #[.int .i64 0, .int .i64 0, .slice none 0 0, .slice none 0 0, .slice none 0 0, .int .i64 0, .int .i64 0, .int .i64 0] 33)).trans HO.out).alloc (.cells #[.int .i64 (f / 16 % 4), .int .i64 0, .slice none 0 0, .slice none 0 0, .slice none 0 0, .int .i64 0, .int .i64 0, .int .i64 (f % 4 + 1)] 33)
  have hs1 : w1.heap.size < (w1.alloc (.cells #[.int .i64 (f / 16 % 4), .int .i64 0, .slice none 0 0, .slice none 0 0, .slice none 0 0, .int .i64 0, .int .i64 0, .int .i64 (f % 4 + 1)] 33)).heap.size := by simp
  clear HO HR HBZ
  generalize w1.alloc (.cells #[.int .i64 (f / 16 % 4), .int .i64 0, .slice none 0 0, .slice none 0 0, .slice none 0 0, .int .i64 0, .int .i64 0, .int .i64 (f % 4 + 1)] 33) = w0_ at *
  generalize w1.heap.size = hb at *
  obtain ⟨E, hE⟩ : ∃ E, w0_.heap.size = E := ⟨_, rfl⟩
  have HL := Aside0.mk (show rb < w.heap.size ∧ w.heap.size < hb ∧ hb < E from ⟨HRL.out, hsz, by omega⟩)
  have SZ10 := Aside0.mk (show E ≤ w0_.heap.size by omega)
  have R10 := Aside0.mk hr1
  have B10 := Aside0.mk hb1
  have Z10 := Aside0.mk hz1
  have O10 := Aside0.mk ho1
  have q0 := hb1.cell 0 _ rfl
  clear hr1 hb1 hz1 ho1 hne hsz hs1 HRL hE w1
  obtain ⟨w10, hw10⟩ : ∃ w10, w10 = w0_ := ⟨_, rfl⟩
  subst hw10
  have HR10 := HR0
  clear HR0
  by_cases k1 : f / 4 % 4 = 0
  rotate_left
  · rw [decide_eq_false k1] at a3
    obtain rfl : .error 3 = r := (show hLong l f 1 = .error 3 by unfold hLong; rw [if_neg (fun h => k1 h.1)]).symm.trans HR10.out
    clear k1 HR10
    go_wp2_with (go_at_call 39; refine (need_bad _ _).mono ?_; rintro e1 w9 ⟨rfl, rfl⟩)
    exact ⟨rfl, rfl, O10.out⟩
  rw [decide_eq_true k1] at a3
  by_cases k2 : f / 16 % 4 < 3
  rotate_left
  · have d1 : decide (f / 16 % 4 < 3) = false := decide_eq_false k2
    obtain rfl : .error 3 = r := (show hLong l f 1 = .error 3 by unfold hLong; rw [if_neg (fun h => k2 h.2)]).symm.trans HR10.out
    clear k1 k2 HR10
    go_wp2_with (go_at_call 39; refine (need_bad _ _).mono ?_; rintro e1 w9 ⟨rfl, rfl⟩)
    exact ⟨rfl, rfl, O10.out⟩
  have d1 : decide (f / 16 % 4 < 3) = true := decide_eq_true k2
  have HR11 := Aside0.mk ((show hLong l f 1 = hS11 l (f / 16 % 4) (f % 4 + 1) 1 by unfold hLong; rw [if_pos ⟨k1, k2⟩]).symm.trans HR10.out)
  have K2 := Aside0.mk k2
  clear HR10 k1 k2
  go_upto_region 11 with (go_at_call 39; refine (need_ok _ _).mono ?_; rintro e1 w9 ⟨rfl, rfl⟩)
  clear d1 a3 q0
  have R11 := R10
  have B11 := B10
  have Z11 := Z10
  have O11 := O10
  have SZ11 := SZ10
  clear R10 B10 Z10 O10 SZ10
  obtain ⟨w11, hw11⟩ : ∃ w11, w11 = w10 := ⟨_, rfl⟩
  subst hw11
  obtain ⟨kd, hkd⟩ : ∃ kd, f / 16 % 4 = kd := ⟨_, rfl⟩
  rw [hkd] at B11 HR11 K2 ⊢
  have KD := Aside0.mk hkd
  clear hkd
  rcases bq : rdN l 1 4 with e | ⟨ver, p12⟩
  · have HB := num_post R11.out 4 (by omega)
    rw [bq] at HB
    have hrr := HR11.out
    unfold hS11 at hrr
    rw [bq] at hrr
    subst hrr
    clear bq HR11
    go_wp2_with (go_at_call 38; refine HB.mono ?_; rintro e1 w9 ⟨rfl, ho⟩; have HO := Aside0.mk ho; clear ho)
    exact ⟨rfl, rfl, O11.out.trans HO.out⟩
  · have HB := num_post R11.out 4 (by omega)
    rw [bq] at HB
    have hrr := HR11.out
    unfold hS11 at hrr
    rw [bq] at hrr
    have HR12 := Aside0.mk (show (if 0 < ver then hS13 l kd ver (f % 4 + 1) p12 else .error 3) = r from hrr)
    clear bq HR11 hrr
    go_upto_region 12 with (go_at_call 38; refine HB.mono ?_; rintro e1 w9 ⟨rfl, hn0, hn1, hr, ho⟩; have HN9 := Aside0.mk hn0; clear hn0 hn1; have HO := Aside0.mk ho; have HRd := Aside0.mk hr; have hb9 := B11.out.only ho (by have := HL.out; omega); have B9 := Aside0.mk hb9; have q9 := hb9.cell 1 _ rfl; have g9 := hb9.frozen 1; clear ho hr hb9)
    clear HB
    have hL := HL.out
    have s9 := (Only.refl (fun k => k = hb) w9).setCell (ad := ⟨hb, 1, none⟩) rfl (.int .i64 ver)
    have R12 := Aside0.mk (HRd.out.far (a := ⟨hb, 1, none⟩) (by show hb ≠ rb; omega) (by have := HRd.out.lo; show w0.heap.size ≤ hb; omega) (.int .i64 ver))
    have B12 := Aside0.mk (B9.out.set 1 (.int .i64 ver))
    have Z12 := Aside0.mk ((Z11.out.only HO.out (by omega)).far (a := ⟨hb, 1, none⟩) (by show hb ≠ w.heap.size; omega) (.int .i64 ver))
    have O12 := Aside0.mk ((O11.out.trans HO.out).setNew (ad := ⟨hb, 1, none⟩) (by show w.heap.size ≤ hb; omega) (.int .i64 ver))
    have hz9 : w9.heap.size ≤ (w9.setCell ⟨hb, 1, none⟩ (.int .i64 ver)).heap.size := by simp [World.setCell]
    have SZ12 := Aside0.mk (show E ≤ (w9.setCell ⟨hb, 1, none⟩ (.int .i64 ver)).heap.size by have := SZ11.out; have := HO.out.size; omega)
    clear s9 HRd B9 HO q9 g9 hz9 hL B11 Z11 O11 R11 SZ11
    generalize w9.setCell ⟨hb, 1, none⟩ (.int .i64 ver) = w12 at *
    have q1 := B12.out.cell 1 _ rfl
    by_cases k1 : 0 < ver
    rotate_left
    · have d1 : decide (0 < ver) = false := decide_eq_false k1
      obtain rfl : .error 3 = r := (if_neg k1).symm.trans HR12.out
      clear k1 HR12
      go_wp2_with (go_at_call 39; refine (need_bad _ _).mono ?_; rintro e1 w9 ⟨rfl, rfl⟩)
      exact ⟨rfl, rfl, O12.out⟩
    have d1 : decide (0 < ver) = true := decide_eq_true k1
    have HR13 := Aside0.mk ((if_pos k1).symm.trans HR12.out)
    clear HR12 k1
    go_upto_region 13 with (go_at_call 39; refine (need_ok _ _).mono ?_; rintro e1 w9 ⟨rfl, rfl⟩)
    clear d1 q1
    have R13 := R12
    have B13 := B12
    have Z13 := Z12
    have O13 := O12
    have SZ13 := SZ12
    clear R12 B12 Z12 O12 SZ12
    obtain ⟨w13, hw13⟩ : ∃ w13, w13 = w12 := ⟨_, rfl⟩
    subst hw13
    rcases bq : rdC (rdN l p12 1) l ((20 : Nat) : Int) with e | ⟨tO, p14⟩
    · have HB := counted_one R13.out 20 (by omega)
      rw [bq] at HB
      have hrr := HR13.out
      unfold hS13 at hrr
      rw [bq] at hrr
      subst hrr
      clear bq HR13
      go_wp2_with (go_at_call 41; refine HB.mono ?_; rintro e1 w9 ⟨rfl, ho⟩; have HO := Aside0.mk ho; clear ho)
      exact ⟨rfl, rfl, O13.out.trans HO.out⟩
    · have HB := counted_one R13.out 20 (by omega)
      rw [bq] at HB
      have hrr := HR13.out
      unfold hS13 at hrr
      rw [bq] at hrr
      have HR14 := Aside0.mk (show hS14 l kd ver tO (f % 4 + 1) p14 = r from hrr)
      clear bq HR13 hrr
      go_upto_region 14 with (go_at_call 41; refine HB.mono ?_; rintro e1 w9 ⟨v9, rfl, hv, hr, ho⟩; obtain ⟨A9, c9, e9⟩ := Kd.R_slice hv; obtain ⟨n9, hn9⟩ : ∃ n9, tO.length = n9 := ⟨_, rfl⟩; rw [hn9] at e9; clear hn9; subst e9; have HV := Aside0.mk hv; clear hv; have HO := Aside0.mk ho; have HRd := Aside0.mk hr; have hb9 := B13.out.only ho (by have := HL.out; omega); have B9 := Aside0.mk hb9; have q9 := hb9.cell 2 _ rfl; have g9 := hb9.frozen 2; clear ho hr hb9)
      clear HB
      obtain ⟨A14, n14, c14, hA9⟩ : ∃ (A' : Option Addr) (n' c' : Nat), A' = A9 ∧ n' = n9 ∧ c' = c9 := ⟨_, _, _, rfl, rfl, rfl⟩
      obtain ⟨hA9, hB9, hC9⟩ := hA9
      subst hA9 hB9 hC9
      have hL := HL.out
      have s9 := (Only.refl (fun k => k = hb) w9).setCell (ad := ⟨hb, 2, none⟩) rfl (.slice A14 n14 c14)
      have R14 := Aside0.mk (HRd.out.far (a := ⟨hb, 2, none⟩) (by show hb ≠ rb; omega) (by have := HRd.out.lo; show w0.heap.size ≤ hb; omega) (.slice A14 n14 c14))
      have B14 := Aside0.mk (B9.out.set 2 (.slice A14 n14 c14))
      have Z14 := Aside0.mk ((Z13.out.only HO.out (by omega)).far (a := ⟨hb, 2, none⟩) (by show hb ≠ w.heap.size; omega) (.slice A14 n14 c14))
      have V14 := Aside0.mk (rowK (rowB HV.out) s9 (fun k e => by have := SZ13.out; omega))
      have O14 := Aside0.mk ((O13.out.trans HO.out).setNew (ad := ⟨hb, 2, none⟩) (by show w.heap.size ≤ hb; omega) (.slice A14 n14 c14))
      have hz9 : w9.heap.size ≤ (w9.setCell ⟨hb, 2, none⟩ (.slice A14 n14 c14)).heap.size := by simp [World.setCell]
      have SZ14 := Aside0.mk (show E ≤ (w9.setCell ⟨hb, 2, none⟩ (.slice A14 n14 c14)).heap.size by have := SZ13.out; have := HO.out.size; omega)
      obtain ⟨s14, hs9⟩ : ∃ s, w13.heap.size = s := ⟨_, rfl⟩
      obtain ⟨t14, ht9⟩ : ∃ t, w9.heap.size = t := ⟨_, rfl⟩
      rw [hs9, ht9] at V14
      have V14s := Aside0.mk (show E ≤ s14 ∧ s14 ≤ t14 ∧ t14 ≤ (w9.setCell ⟨hb, 2, none⟩ (.slice A14 n14 c14)).heap.size by have := SZ13.out; have := HO.out.size; omega)
      clear s9 HRd B9 HO q9 g9 hz9 hL HV B13 Z13 O13 R13 SZ13
      generalize w9.setCell ⟨hb, 2, none⟩ (.slice A14 n14 c14) = w14 at *
      clear hs9 ht9
      rcases bq : rdC (rdN l p14 1) l ((20 : Nat) : Int) with e | ⟨fr, p15⟩
      · have HB := counted_one R14.out 20 (by omega)
        rw [bq] at HB
        have hrr := HR14.out
        unfold hS14 at hrr
        rw [bq] at hrr
        subst hrr
        clear bq HR14
        go_wp2_with (go_at_call 41; refine HB.mono ?_; rintro e1 w9 ⟨rfl, ho⟩; have HO := Aside0.mk ho; clear ho)
        exact ⟨rfl, rfl, O14.out.trans HO.out⟩
      · have HB := counted_one R14.out 20 (by omega)
        rw [bq] at HB
        have hrr := HR14.out
        unfold hS14 at hrr
        rw [bq] at hrr
        have HR15 := Aside0.mk (show hS15 l kd ver tO fr (f % 4 + 1) p15 = r from hrr)
        clear bq HR14 hrr
        go_upto_region 15 with (go_at_call 41; refine HB.mono ?_; rintro e1 w9 ⟨v9, rfl, hv, hr, ho⟩; obtain ⟨A9, c9, e9⟩ := Kd.R_slice hv; obtain ⟨n9, hn9⟩ : ∃ n9, fr.length = n9 := ⟨_, rfl⟩; rw [hn9] at e9; clear hn9; subst e9; have HV := Aside0.mk hv; clear hv; have HO := Aside0.mk ho; have HRd := Aside0.mk hr; have hb9 := B14.out.only ho (by have := HL.out; omega); have B9 := Aside0.mk hb9; have q9 := hb9.cell 3 _ rfl; have g9 := hb9.frozen 3; clear ho hr hb9)
        clear HB
        obtain ⟨A15, n15, c15, hA9⟩ : ∃ (A' : Option Addr) (n' c' : Nat), A' = A9 ∧ n' = n9 ∧ c' = c9 := ⟨_, _, _, rfl, rfl, rfl⟩
        obtain ⟨hA9, hB9, hC9⟩ := hA9
        subst hA9 hB9 hC9
        have hL := HL.out
        have s9 := (Only.refl (fun k => k = hb) w9).setCell (ad := ⟨hb, 3, none⟩) rfl (.slice A15 n15 c15)
        have R15 := Aside0.mk (HRd.out.far (a := ⟨hb, 3, none⟩) (by show hb ≠ rb; omega) (by have := HRd.out.lo; show w0.heap.size ≤ hb; omega) (.slice A15 n15 c15))
        have B15 := Aside0.mk (B9.out.set 3 (.slice A15 n15 c15))
        have Z15 := Aside0.mk ((Z14.out.only HO.out (by omega)).far (a := ⟨hb, 3, none⟩) (by show hb ≠ w.heap.size; omega) (.slice A15 n15 c15))
        have V14' := Aside0.mk (rowK (rowK V14.out HO.out (fun k e => by have := V14s.out; omega)) s9 (fun k e => by have := V14s.out; omega))
        have V15 := Aside0.mk (rowK (rowB HV.out) s9 (fun k e => by have := SZ14.out; omega))
        have O15 := Aside0.mk ((O14.out.trans HO.out).setNew (ad := ⟨hb, 3, none⟩) (by show w.heap.size ≤ hb; omega) (.slice A15 n15 c15))
        have hz9 : w9.heap.size ≤ (w9.setCell ⟨hb, 3, none⟩ (.slice A15 n15 c15)).heap.size := by simp [World.setCell]
        have SZ15 := Aside0.mk (show E ≤ (w9.setCell ⟨hb, 3, none⟩ (.slice A15 n15 c15)).heap.size by have := SZ14.out; have := HO.out.size; omega)
        obtain ⟨s15, hs9⟩ : ∃ s, w14.heap.size = s := ⟨_, rfl⟩
        obtain ⟨t15, ht9⟩ : ∃ t, w9.heap.size = t := ⟨_, rfl⟩
        rw [hs9, ht9] at V15
        have V15s := Aside0.mk (show E ≤ s15 ∧ s15 ≤ t15 ∧ t15 ≤ (w9.setCell ⟨hb, 3, none⟩ (.slice A15 n15 c15)).heap.size by have := SZ14.out; have := HO.out.size; omega)
        have V15o := Aside0.mk (show t14 ≤ s15 by have := V14s.out; omega)
        have V14s' := Aside0.mk (show E ≤ s14 ∧ s14 ≤ t14 ∧ t14 ≤ (w9.setCell ⟨hb, 3, none⟩ (.slice A15 n15 c15)).heap.size by have := V14s.out; have := HO.out.size; omega)
        clear s9 HRd B9 HO q9 g9 hz9 hL HV B14 Z14 O14 R14 SZ14 V14 V14s
        generalize w9.setCell ⟨hb, 3, none⟩ (.slice A15 n15 c15) = w15 at *
        have V14 := V14'
        have V14s := V14s'
        clear V14' V14s'
        clear hs9 ht9
        have q0 := B15.out.cell 0 _ rfl
        by_cases k1 : kd = 0
        · have d1 : (kd == 0) = true := by simp [k1]
          have d1' : decide (kd = 0) = true := decide_eq_true k1
          have HR16 := Aside0.mk ((if_pos k1).symm.trans HR15.out)
          clear HR15 k1
          go_upto_region 16 with (fail)
          clear d1 d1' q0
          have R16 := R15
          have B16 := B15
          have Z16 := Z15
          have O16 := O15
          have SZ16 := SZ15
          clear R15 B15 Z15 O15 SZ15
          obtain ⟨w16, hw16⟩ : ∃ w16, w16 = w15 := ⟨_, rfl⟩
          subst hw16
          rcases bq : rdC (rdV l p15) l ((64 : Nat) : Int) with e | ⟨tk, p18⟩
          · have HB := counted_var R16.out 64 (by omega)
            rw [bq] at HB
            have hrr := HR16.out
            rw [bq] at hrr
            subst hrr
            clear bq HR16
            go_wp2_with (go_at_call 41; refine HB.mono ?_; rintro e1 w9 ⟨rfl, ho⟩; have HO := Aside0.mk ho; clear ho)
            exact ⟨rfl, rfl, O16.out.trans HO.out⟩
          · have HB := counted_var R16.out 64 (by omega)
            rw [bq] at HB
            have hrr := HR16.out
            rw [bq] at hrr
            have HR18 := Aside0.mk (show hS17 l kd ver tO fr tk (f % 4 + 1) p18 = r from hrr)
            clear bq HR16 hrr
            go_upto_region 17 with (go_at_call 41; refine HB.mono ?_; rintro e1 w9 ⟨v9, rfl, hv, hr, ho⟩; obtain ⟨A9, c9, e9⟩ := Kd.R_slice hv; obtain ⟨n9, hn9⟩ : ∃ n9, tk.length = n9 := ⟨_, rfl⟩; rw [hn9] at e9; clear hn9; subst e9; have HV := Aside0.mk hv; clear hv; have HO := Aside0.mk ho; have HRd := Aside0.mk hr; have hb9 := B16.out.only ho (by have := HL.out; omega); have B9 := Aside0.mk hb9; have q9 := hb9.cell 4 _ rfl; have g9 := hb9.frozen 4; clear ho hr hb9)
            clear HB
            obtain ⟨A18, n18, c18, hA9⟩ : ∃ (A' : Option Addr) (n' c' : Nat), A' = A9 ∧ n' = n9 ∧ c' = c9 := ⟨_, _, _, rfl, rfl, rfl⟩
            obtain ⟨hA9, hB9, hC9⟩ := hA9
            subst hA9 hB9 hC9
            have hL := HL.out
            have s9 := (Only.refl (fun k => k = hb) w9).setCell (ad := ⟨hb, 4, none⟩) rfl (.slice A18 n18 c18)
            have R18 := Aside0.mk (HRd.out.far (a := ⟨hb, 4, none⟩) (by show hb ≠ rb; omega) (by have := HRd.out.lo; show w0.heap.size ≤ hb; omega) (.slice A18 n18 c18))
            have B18 := Aside0.mk (B9.out.set 4 (.slice A18 n18 c18))
            have Z18 := Aside0.mk ((Z16.out.only HO.out (by omega)).far (a := ⟨hb, 4, none⟩) (by show hb ≠ w.heap.size; omega) (.slice A18 n18 c18))
            have V14' := Aside0.mk (rowK (rowK V14.out HO.out (fun k e => by have := V14s.out; omega)) s9 (fun k e => by have := V14s.out; omega))
            have V15' := Aside0.mk (rowK (rowK V15.out HO.out (fun k e => by have := V15s.out; omega)) s9 (fun k e => by have := V15s.out; omega))
            have V18 := Aside0.mk (rowK (rowB HV.out) s9 (fun k e => by have := SZ16.out; omega))
            have O18 := Aside0.mk ((O16.out.trans HO.out).setNew (ad := ⟨hb, 4, none⟩) (by show w.heap.size ≤ hb; omega) (.slice A18 n18 c18))
            have hz9 : w9.heap.size ≤ (w9.setCell ⟨hb, 4, none⟩ (.slice A18 n18 c18)).heap.size := by simp [World.setCell]
            have SZ18 := Aside0.mk (show E ≤ (w9.setCell ⟨hb, 4, none⟩ (.slice A18 n18 c18)).heap.size by have := SZ16.out; have := HO.out.size; omega)
            obtain ⟨s18, hs9⟩ : ∃ s, w16.heap.size = s := ⟨_, rfl⟩
            obtain ⟨t18, ht9⟩ : ∃ t, w9.heap.size = t := ⟨_, rfl⟩
            rw [hs9, ht9] at V18
            have V18s := Aside0.mk (show E ≤ s18 ∧ s18 ≤ t18 ∧ t18 ≤ (w9.setCell ⟨hb, 4, none⟩ (.slice A18 n18 c18)).heap.size by have := SZ16.out; have := HO.out.size; omega)
            have V18o := Aside0.mk (show t15 ≤ s18 by have := V15s.out; omega)
            have V14s' := Aside0.mk (show E ≤ s14 ∧ s14 ≤ t14 ∧ t14 ≤ (w9.setCell ⟨hb, 4, none⟩ (.slice A18 n18 c18)).heap.size by have := V14s.out; have := HO.out.size; omega)
            have V15s' := Aside0.mk (show E ≤ s15 ∧ s15 ≤ t15 ∧ t15 ≤ (w9.setCell ⟨hb, 4, none⟩ (.slice A18 n18 c18)).heap.size by have := V15s.out; have := HO.out.size; omega)
            clear s9 HRd B9 HO q9 g9 hz9 hL HV B16 Z16 O16 R16 SZ16 V14 V14s V15 V15s
            generalize w9.setCell ⟨hb, 4, none⟩ (.slice A18 n18 c18) = w18 at *
            have V14 := V14'
            have V14s := V14s'
            clear V14' V14s'
            have V15 := V15'
            have V15s := V15s'
            clear V15' V15s'
            clear hs9 ht9
            rcases bq : rdV l p18 with e | ⟨n, p17⟩
            · have HB := var_post R18.out
              rw [bq] at HB
              have hrr := HR18.out
              unfold hS17 at hrr
              rw [bq] at hrr
              subst hrr
              clear bq HR18
              go_wp2_with (go_at_call 43; refine HB.mono ?_; rintro e1 w9 ⟨rfl, ho⟩; have HO := Aside0.mk ho; clear ho)
              exact ⟨rfl, rfl, O18.out.trans HO.out⟩
            have HB := var_post R18.out
            rw [bq] at HB
            have hrr := HR18.out
            unfold hS17 at hrr
            rw [bq] at hrr
            have HR17 := Aside0.mk hrr
            have HNN := Aside0.mk (rdV_nn bq)
            clear bq HR18 hrr
            go_upto_region 18 with (go_at_call 43; refine HB.mono ?_; rintro e1 w9 ⟨rfl, hn0, hn1, hr, ho⟩; have HO := Aside0.mk ho; have HRd := Aside0.mk hr; have HN1 := Aside0.mk hn1; clear ho hr hn0 hn1)
            clear HB
            have hL := HL.out
            have R17 := HRd
            have B17 := Aside0.mk (B18.out.only HO.out (by omega))
            have Z17 := Aside0.mk (Z18.out.only HO.out (by omega))
            have O17 := Aside0.mk (O18.out.trans HO.out)
            have SZ17 := Aside0.mk (show E ≤ w9.heap.size by have := SZ18.out; have := HO.out.size; omega)
            have V14' := Aside0.mk (rowK V14.out HO.out (fun k e => by have := V14s.out; omega))
            have V14s' := Aside0.mk (show E ≤ s14 ∧ s14 ≤ t14 ∧ t14 ≤ w9.heap.size by have := V14s.out; have := HO.out.size; omega)
            have V15' := Aside0.mk (rowK V15.out HO.out (fun k e => by have := V15s.out; omega))
            have V15s' := Aside0.mk (show E ≤ s15 ∧ s15 ≤ t15 ∧ t15 ≤ w9.heap.size by have := V15s.out; have := HO.out.size; omega)
            have V18' := Aside0.mk (rowK V18.out HO.out (fun k e => by have := V18s.out; omega))
            have V18s' := Aside0.mk (show E ≤ s18 ∧ s18 ≤ t18 ∧ t18 ≤ w9.heap.size by have := V18s.out; have := HO.out.size; omega)
            clear HRd HO hL R18 B18 Z18 O18 SZ18 V14 V14s V15 V15s V18 V18s
            have V14 := V14'
            have V14s := V14s'
            clear V14' V14s'
            have V15 := V15'
            have V15s := V15s'
            clear V15' V15s'
            have V18 := V18'
            have V18s := V18s'
            clear V18' V18s'
            have q7 := B17.out.cell 7 _ rfl
            by_cases k1 : f % 4 + 1 ≤ n
            rotate_left
            · have d1 : decide (f % 4 + 1 ≤ n) = false := decide_eq_false k1
              obtain rfl : .error 3 = r := (if_neg k1).symm.trans HR17.out
              clear k1 HR17
              go_wp2_with (go_at_call 39; refine (need_bad _ _).mono ?_; rintro e1 w9 ⟨rfl, rfl⟩)
              exact ⟨rfl, rfl, O17.out⟩
            have d1 : decide (f % 4 + 1 ≤ n) = true := decide_eq_true k1
            have HR18 := Aside0.mk ((if_pos k1).symm.trans HR17.out)
            clear HR17 k1
            go_upto_region 19 with (go_at_call 39; refine (need_ok _ _).mono ?_; rintro e1 w9 ⟨rfl, rfl⟩)
            clear d1 q7
            have c0 := R17.out.c0
            have c1 := R17.out.c1
            have hp17 := R17.out.pl
            have hm17 := R17.out.lm
            have e0 : IntKind.i64.wrap ((l.length : Int) - (p17 : Int)) = (l.length : Int) - (p17 : Int) := IntWalk.i64_in _ (by omega)
            have e1 : wrap64 ((l.length : Int) - (p17 : Int)) = (l.length : Int) - (p17 : Int) := by unfold wrap64; omega
            clear hp17 hm17
            by_cases k1 : n ≤ (l.length : Int) - p17
            rotate_left
            · have d1 : decide (n ≤ (l.length : Int) - (p17 : Int)) = false := decide_eq_false k1
              obtain rfl : .error 2 = r := (if_neg k1).symm.trans HR18.out
              clear k1 HR18
              go_still_tail 12, (by kernel_rfl)
              go_wp2_with (go_at_call 39; refine (need_bad _ _).mono ?_; rintro e1 w8 ⟨rfl, hw8⟩; have HW8 := Aside0.mk hw8; clear hw8)
              exact ⟨rfl, rfl, by rw [← HW8.out]; exact O17.out.drew⟩
            have d1 : decide (n ≤ (l.length : Int) - (p17 : Int)) = true := decide_eq_true k1
            have HR19 := Aside0.mk ((if_pos k1).symm.trans HR18.out)
            have K1 := Aside0.mk k1
            clear HR18 k1
            go_still_tail 12, (by kernel_rfl)
            go_upto_region 20 with (go_at_call 39; refine (need_ok _ _).mono ?_; rintro e1 w9 ⟨rfl, rfl⟩)
            have R19 := Aside0.mk (R17.out.below (w' := w9.drew) (below_drew (Below.refl _ _)))
            have B19 := Aside0.mk (B17.out.only ((Only.refl (fun _ => False) w9).drew) (fun q => q))
            have Z19 := Aside0.mk (Z17.out.only ((Only.refl (fun _ => False) w9).drew) (fun q => q))
            have O19 := Aside0.mk O17.out.drew
            have SZ19 := Aside0.mk (show E ≤ w9.drew.heap.size from SZ17.out)
            have V14' := Aside0.mk (Kd.R_drew V14.out)
            have V14s' := Aside0.mk (show E ≤ s14 ∧ s14 ≤ t14 ∧ t14 ≤ w9.drew.heap.size from V14s.out)
            have V15' := Aside0.mk (Kd.R_drew V15.out)
            have V15s' := Aside0.mk (show E ≤ s15 ∧ s15 ≤ t15 ∧ t15 ≤ w9.drew.heap.size from V15s.out)
            have V18' := Aside0.mk (Kd.R_drew V18.out)
            have V18s' := Aside0.mk (show E ≤ s18 ∧ s18 ≤ t18 ∧ t18 ≤ w9.drew.heap.size from V18s.out)
            clear c0 c1 d1 R17 B17 Z17 O17 SZ17 V14 V14s V15 V15s V18 V18s
            have V14 := V14'
            have V14s := V14s'
            clear V14' V14s'
            have V15 := V15'
            have V15s := V15s'
            clear V15' V15s'
            have V18 := V18'
            have V18s := V18s'
            clear V18' V18s'
            generalize w9.drew = w19 at *
            have c1 := R19.out.c1
            have hp19 := R19.out.pl
            have hm19 := R19.out.lm
            have hk1 := K1.out
            have hnn := HNN.out
            have e2 : IntKind.i64.wrap ((p17 : Int) + n) = (p17 : Int) + n := IntWalk.i64_in _ (by omega)
            have e3 : wrap64 ((p17 : Int) + n) = (p17 : Int) + n := by unfold wrap64; omega
            have hF := HF.out
            have HN := num_post R19.out (f % 4 + 1).toNat (by omega)
            rw [Int.toNat_of_nonneg (by omega)] at HN
            have q7 := B19.out.cell 7 _ rfl
            clear hp19 hm19 hk1 hnn hF e0 e1
            rcases bq : rdN l p17 (f % 4 + 1).toNat with e | ⟨nm, p21⟩
            · have hrr := HR19.out
              unfold hS21 at hrr
              rw [bq] at hrr HN
              subst hrr
              clear bq HR19
              go_wp2_with (go_at_call 38; refine HN.mono ?_; rintro e1 w9 ⟨rfl, ho⟩; have HO := Aside0.mk ho; clear ho)
              exact ⟨rfl, rfl, O19.out.trans HO.out⟩
            have hrr := HR19.out
            unfold hS21 at hrr
            rw [bq] at hrr HN
            have HR21 := Aside0.mk (show .ok ((kd, ver, tO, fr, tk, 0, nm, f % 4 + 1), p21, (p17 : Int) + n) = r from hrr)
            clear bq HR19 hrr
            go_upto_region 22 with (go_at_call 38; refine HN.mono ?_; rintro e1 w5 ⟨rfl, _, _, hr, ho⟩; have HO := Aside0.mk ho; have HRd := Aside0.mk hr; have hb5 := B19.out.only ho (by have := HL.out; omega); have B5 := Aside0.mk hb5; have q6 := hb5.cell 6 _ rfl; have g6 := hb5.frozen 6; clear ho hr hb5)
            have hL := HL.out
            have s6 := (Only.refl (fun k => k = hb) w5).setCell (ad := ⟨hb, 6, none⟩) rfl (.int .i64 nm)
            have R6 := Aside0.mk (HRd.out.far (a := ⟨hb, 6, none⟩) (by show hb ≠ rb; omega) (by have := HRd.out.lo; show w0.heap.size ≤ hb; omega) (.int .i64 nm))
            have B6 := Aside0.mk (B5.out.set 6 (.int .i64 nm))
            have Z6 := Aside0.mk ((Z19.out.only HO.out (by omega)).far (a := ⟨hb, 6, none⟩) (by show hb ≠ w.heap.size; omega) (.int .i64 nm))
            have O6 := Aside0.mk ((O19.out.trans HO.out).setNew (ad := ⟨hb, 6, none⟩) (by show w.heap.size ≤ hb; omega) (.int .i64 nm))
            have hz6 : w19.heap.size ≤ (w5.setCell ⟨hb, 6, none⟩ (.int .i64 nm)).heap.size := Nat.le_trans HO.out.size (by simp [World.setCell])
            have V14' := Aside0.mk (rowK (rowK V14.out HO.out (fun k e => by have := V14s.out; omega)) s6 (fun k e => by have := V14s.out; omega))
            have V15' := Aside0.mk (rowK (rowK V15.out HO.out (fun k e => by have := V15s.out; omega)) s6 (fun k e => by have := V15s.out; omega))
            have V18' := Aside0.mk (rowK (rowK V18.out HO.out (fun k e => by have := V18s.out; omega)) s6 (fun k e => by have := V18s.out; omega))
            clear s6 HRd B5 Z19 O19 HO B19 q6 g6 q7 c1 R19 HN V14 V15 V18
            generalize w5.setCell ⟨hb, 6, none⟩ (.int .i64 nm) = w6 at *
            have Z6s := Aside0.mk hz6
            clear hz6 hL
            have b0 := B6.out.cell 0 _ rfl
            have b1 := B6.out.cell 1 _ rfl
            have b2 := B6.out.cell 2 _ rfl
            have b3 := B6.out.cell 3 _ rfl
            have b4 := B6.out.cell 4 _ rfl
            have b5 := B6.out.cell 5 _ rfl
            have b6 := B6.out.cell 6 _ rfl
            have b7 := B6.out.cell 7 _ rfl
            have z0 := Z6.out.cell 0 _ rfl
            have z1 := Z6.out.cell 1 _ rfl
            have z2 := Z6.out.cell 2 _ rfl
            have z3 := Z6.out.cell 3 _ rfl
            have z4 := Z6.out.cell 4 _ rfl
            have z5 := Z6.out.cell 5 _ rfl
            have z6 := Z6.out.cell 6 _ rfl
            have z7 := Z6.out.cell 7 _ rfl
            have y0 := Z6.out.frozen 0
            have y1 := Z6.out.frozen 1
            have y2 := Z6.out.frozen 2
            have y3 := Z6.out.frozen 3
            have y4 := Z6.out.frozen 4
            have y5 := Z6.out.frozen 5
            have y6 := Z6.out.frozen 6
            have y7 := Z6.out.frozen 7
            go_wp2
            have hL := HL.out
            change bodyPost _ _ _ _ _ (put8 w6 w.heap.size (.int .i64 kd) (.int .i64 ver) (.slice A14 n14 c14) (.slice A15 n15 c15) (.slice A18 n18 c18) (.int .i64 0) (.int .i64 nm) (.int .i64 (f % 4 + 1)))
            have o8 := put8_only w6 w.heap.size (.int .i64 kd) (.int .i64 ver) (.slice A14 n14 c14) (.slice A15 n15 c15) (.slice A18 n18 c18) (.int .i64 0) (.int .i64 nm) (.int .i64 (f % 4 + 1))
            have B8 := put8_blk Z6.out (.int .i64 kd) (.int .i64 ver) (.slice A14 n14 c14) (.slice A15 n15 c15) (.slice A18 n18 c18) (.int .i64 0) (.int .i64 nm) (.int .i64 (f % 4 + 1))
            clear b0 b1 b2 b3 b4 b5 b6 b7 z0 z1 z2 z3 z4 z5 z6 z7 y0 y1 y2 y3 y4 y5 y6 y7
            generalize put8 w6 w.heap.size (.int .i64 kd) (.int .i64 ver) (.slice A14 n14 c14) (.slice A15 n15 c15) (.slice A18 n18 c18) (.int .i64 0) (.int .i64 nm) (.int .i64 (f % 4 + 1)) = w8 at *
            have x0 := B8.cell 0 _ rfl
            have x1 := B8.cell 1 _ rfl
            have x2 := B8.cell 2 _ rfl
            have x3 := B8.cell 3 _ rfl
            have x4 := B8.cell 4 _ rfl
            have x5 := B8.cell 5 _ rfl
            have x6 := B8.cell 6 _ rfl
            have x7 := B8.cell 7 _ rfl
            clear B8
            have hrr := HR21.out
            subst hrr
            refine bodyPost_ret (v := .tuple #[.agg #[.int .i64 kd, .int .i64 ver, .slice A14 n14 c14, .slice A15 n15 c15, .slice A18 n18 c18, .int .i64 0, .int .i64 nm, .int .i64 (f % 4 + 1)], .int .i64 ((p17 : Int) + n)]) ?_ rfl ?_
            · simp [results, Tryd.results34, go_sem, x0, x1, x2, x3, x4, x5, x6, x7]
            · clear x0 x1 x2 x3 x4 x5 x6 x7
              have hV14 := rowK V14'.out o8 (fun k e => by have := V14s.out; omega)
              have hV15 := rowK V15'.out o8 (fun k e => by have := V15s.out; omega)
              have hV18 := rowK V18'.out o8 (fun k e => by have := V18s.out; omega)
              have h1 := V14s.out; have h2 := V15s.out; have h3 := V18s.out; have h4 := V15o.out; have h5 := V18o.out
              refine ⟨_, _, _, rfl, ⟨s14, s15, s18, t18, by omega, by omega, by omega, by omega, Kd.R_mono hV14 (fun k hk => ⟨hk.1, by omega⟩), Kd.R_mono hV15 (fun k hk => ⟨hk.1, by omega⟩), hV18⟩, R6.out.only o8 (by omega) (by have := R6.out.lo; have := R6.out.bl.size; omega), ?_⟩
              have := O6.out
              exact ⟨o8.os.trans this.os, o8.tape.trans this.tape, o8.output.trans this.output, Nat.le_trans this.size o8.size, fun k hk hn => (o8.block k (Nat.lt_of_lt_of_le hk this.size) (fun e => by omega)).trans (this.block k hk hn)⟩
        · have d1 : (kd == 0) = false := by simp [k1]
          have d1' : decide (kd = 0) = false := decide_eq_false k1
          have HR16 := Aside0.mk ((if_neg k1).symm.trans HR15.out)
          clear HR15 k1
          go_upto_region 17 with (fail)
          clear d1 d1' q0
          obtain ⟨w18, hw18⟩ : ∃ w18, w18 = w15 := ⟨_, rfl⟩
          subst hw18
          have R18 := R15
          have B18 := B15
          have Z18 := Z15
          have O18 := O15
          have SZ18 := SZ15
          have HR18_ := HR16
          clear R15 B15 Z15 O15 SZ15 HR16
          obtain ⟨p18, hp18⟩ : ∃ p18, p18 = p15 := ⟨_, rfl⟩
          subst hp18
          have HR18 := HR18_
          clear HR18_
          rcases bq : rdV l p18 with e | ⟨n, p17⟩
          · have HB := var_post R18.out
            rw [bq] at HB
            have hrr := HR18.out
            unfold hS17 at hrr
            rw [bq] at hrr
            subst hrr
            clear bq HR18
            go_wp2_with (go_at_call 43; refine HB.mono ?_; rintro e1 w9 ⟨rfl, ho⟩; have HO := Aside0.mk ho; clear ho)
            exact ⟨rfl, rfl, O18.out.trans HO.out⟩
          have HB := var_post R18.out
          rw [bq] at HB
          have hrr := HR18.out
          unfold hS17 at hrr
          rw [bq] at hrr
          have HR17 := Aside0.mk hrr
          have HNN := Aside0.mk (rdV_nn bq)
          clear bq HR18 hrr
          go_upto_region 18 with (go_at_call 43; refine HB.mono ?_; rintro e1 w9 ⟨rfl, hn0, hn1, hr, ho⟩; have HO := Aside0.mk ho; have HRd := Aside0.mk hr; have HN1 := Aside0.mk hn1; clear ho hr hn0 hn1)
          clear HB
          have hL := HL.out
          have R17 := HRd
          have B17 := Aside0.mk (B18.out.only HO.out (by omega))
          have Z17 := Aside0.mk (Z18.out.only HO.out (by omega))
          have O17 := Aside0.mk (O18.out.trans HO.out)
          have SZ17 := Aside0.mk (show E ≤ w9.heap.size by have := SZ18.out; have := HO.out.size; omega)
          have V14' := Aside0.mk (rowK V14.out HO.out (fun k e => by have := V14s.out; omega))
          have V14s' := Aside0.mk (show E ≤ s14 ∧ s14 ≤ t14 ∧ t14 ≤ w9.heap.size by have := V14s.out; have := HO.out.size; omega)
          have V15' := Aside0.mk (rowK V15.out HO.out (fun k e => by have := V15s.out; omega))
          have V15s' := Aside0.mk (show E ≤ s15 ∧ s15 ≤ t15 ∧ t15 ≤ w9.heap.size by have := V15s.out; have := HO.out.size; omega)
          clear HRd HO hL R18 B18 Z18 O18 SZ18 V14 V14s V15 V15s
          have V14 := V14'
          have V14s := V14s'
          clear V14' V14s'
          have V15 := V15'
          have V15s := V15s'
          clear V15' V15s'
          have q7 := B17.out.cell 7 _ rfl
          by_cases k1 : f % 4 + 1 ≤ n
          rotate_left
          · have d1 : decide (f % 4 + 1 ≤ n) = false := decide_eq_false k1
            obtain rfl : .error 3 = r := (if_neg k1).symm.trans HR17.out
            clear k1 HR17
            go_wp2_with (go_at_call 39; refine (need_bad _ _).mono ?_; rintro e1 w9 ⟨rfl, rfl⟩)
            exact ⟨rfl, rfl, O17.out⟩
          have d1 : decide (f % 4 + 1 ≤ n) = true := decide_eq_true k1
          have HR18 := Aside0.mk ((if_pos k1).symm.trans HR17.out)
          clear HR17 k1
          go_upto_region 19 with (go_at_call 39; refine (need_ok _ _).mono ?_; rintro e1 w9 ⟨rfl, rfl⟩)
          clear d1 q7
          have c0 := R17.out.c0
          have c1 := R17.out.c1
          have hp17 := R17.out.pl
          have hm17 := R17.out.lm
          have e0 : IntKind.i64.wrap ((l.length : Int) - (p17 : Int)) = (l.length : Int) - (p17 : Int) := IntWalk.i64_in _ (by omega)
          have e1 : wrap64 ((l.length : Int) - (p17 : Int)) = (l.length : Int) - (p17 : Int) := by unfold wrap64; omega
          clear hp17 hm17
          by_cases k1 : n ≤ (l.length : Int) - p17
          rotate_left
          · have d1 : decide (n ≤ (l.length : Int) - (p17 : Int)) = false := decide_eq_false k1
            obtain rfl : .error 2 = r := (if_neg k1).symm.trans HR18.out
            clear k1 HR18
            go_still_tail 12, (by kernel_rfl)
            go_wp2_with (go_at_call 39; refine (need_bad _ _).mono ?_; rintro e1 w8 ⟨rfl, hw8⟩; have HW8 := Aside0.mk hw8; clear hw8)
            exact ⟨rfl, rfl, by rw [← HW8.out]; exact O17.out.drew⟩
          have d1 : decide (n ≤ (l.length : Int) - (p17 : Int)) = true := decide_eq_true k1
          have HR19 := Aside0.mk ((if_pos k1).symm.trans HR18.out)
          have K1 := Aside0.mk k1
          clear HR18 k1
          go_still_tail 12, (by kernel_rfl)
          go_upto_region 20 with (go_at_call 39; refine (need_ok _ _).mono ?_; rintro e1 w9 ⟨rfl, rfl⟩)
          have R19 := Aside0.mk (R17.out.below (w' := w9.drew) (below_drew (Below.refl _ _)))
          have B19 := Aside0.mk (B17.out.only ((Only.refl (fun _ => False) w9).drew) (fun q => q))
          have Z19 := Aside0.mk (Z17.out.only ((Only.refl (fun _ => False) w9).drew) (fun q => q))
          have O19 := Aside0.mk O17.out.drew
          have SZ19 := Aside0.mk (show E ≤ w9.drew.heap.size from SZ17.out)
          have V14' := Aside0.mk (Kd.R_drew V14.out)
          have V14s' := Aside0.mk (show E ≤ s14 ∧ s14 ≤ t14 ∧ t14 ≤ w9.drew.heap.size from V14s.out)
          have V15' := Aside0.mk (Kd.R_drew V15.out)
          have V15s' := Aside0.mk (show E ≤ s15 ∧ s15 ≤ t15 ∧ t15 ≤ w9.drew.heap.size from V15s.out)
          clear c0 c1 d1 R17 B17 Z17 O17 SZ17 V14 V14s V15 V15s
          have V14 := V14'
          have V14s := V14s'
          clear V14' V14s'
          have V15 := V15'
          have V15s := V15s'
          clear V15' V15s'
          generalize w9.drew = w19 at *
          have c1 := R19.out.c1
          have hp19 := R19.out.pl
          have hm19 := R19.out.lm
          have hk1 := K1.out
          have hnn := HNN.out
          have e2 : IntKind.i64.wrap ((p17 : Int) + n) = (p17 : Int) + n := IntWalk.i64_in _ (by omega)
          have e3 : wrap64 ((p17 : Int) + n) = (p17 : Int) + n := by unfold wrap64; omega
          have hF := HF.out
          have HN := num_post R19.out (f % 4 + 1).toNat (by omega)
          rw [Int.toNat_of_nonneg (by omega)] at HN
          have q7 := B19.out.cell 7 _ rfl
          clear hp19 hm19 hk1 hnn hF e0 e1
          rcases bq : rdN l p17 (f % 4 + 1).toNat with e | ⟨nm, p21⟩
          · have hrr := HR19.out
            unfold hS21 at hrr
            rw [bq] at hrr HN
            subst hrr
            clear bq HR19
            go_wp2_with (go_at_call 38; refine HN.mono ?_; rintro e1 w9 ⟨rfl, ho⟩; have HO := Aside0.mk ho; clear ho)
            exact ⟨rfl, rfl, O19.out.trans HO.out⟩
          have hrr := HR19.out
          unfold hS21 at hrr
          rw [bq] at hrr HN
          have HR21 := Aside0.mk (show .ok ((kd, ver, tO, fr, [], 0, nm, f % 4 + 1), p21, (p17 : Int) + n) = r from hrr)
          clear bq HR19 hrr
          go_upto_region 22 with (go_at_call 38; refine HN.mono ?_; rintro e1 w5 ⟨rfl, _, _, hr, ho⟩; have HO := Aside0.mk ho; have HRd := Aside0.mk hr; have hb5 := B19.out.only ho (by have := HL.out; omega); have B5 := Aside0.mk hb5; have q6 := hb5.cell 6 _ rfl; have g6 := hb5.frozen 6; clear ho hr hb5)
          have hL := HL.out
          have s6 := (Only.refl (fun k => k = hb) w5).setCell (ad := ⟨hb, 6, none⟩) rfl (.int .i64 nm)
          have R6 := Aside0.mk (HRd.out.far (a := ⟨hb, 6, none⟩) (by show hb ≠ rb; omega) (by have := HRd.out.lo; show w0.heap.size ≤ hb; omega) (.int .i64 nm))
          have B6 := Aside0.mk (B5.out.set 6 (.int .i64 nm))
          have Z6 := Aside0.mk ((Z19.out.only HO.out (by omega)).far (a := ⟨hb, 6, none⟩) (by show hb ≠ w.heap.size; omega) (.int .i64 nm))
          have O6 := Aside0.mk ((O19.out.trans HO.out).setNew (ad := ⟨hb, 6, none⟩) (by show w.heap.size ≤ hb; omega) (.int .i64 nm))
          have hz6 : w19.heap.size ≤ (w5.setCell ⟨hb, 6, none⟩ (.int .i64 nm)).heap.size := Nat.le_trans HO.out.size (by simp [World.setCell])
          have V14' := Aside0.mk (rowK (rowK V14.out HO.out (fun k e => by have := V14s.out; omega)) s6 (fun k e => by have := V14s.out; omega))
          have V15' := Aside0.mk (rowK (rowK V15.out HO.out (fun k e => by have := V15s.out; omega)) s6 (fun k e => by have := V15s.out; omega))
          clear s6 HRd B5 Z19 O19 HO B19 q6 g6 q7 c1 R19 HN V14 V15
          generalize w5.setCell ⟨hb, 6, none⟩ (.int .i64 nm) = w6 at *
          have Z6s := Aside0.mk hz6
          clear hz6 hL
          have b0 := B6.out.cell 0 _ rfl
          have b1 := B6.out.cell 1 _ rfl
          have b2 := B6.out.cell 2 _ rfl
          have b3 := B6.out.cell 3 _ rfl
          have b4 := B6.out.cell 4 _ rfl
          have b5 := B6.out.cell 5 _ rfl
          have b6 := B6.out.cell 6 _ rfl
          have b7 := B6.out.cell 7 _ rfl
          have z0 := Z6.out.cell 0 _ rfl
          have z1 := Z6.out.cell 1 _ rfl
          have z2 := Z6.out.cell 2 _ rfl
          have z3 := Z6.out.cell 3 _ rfl
          have z4 := Z6.out.cell 4 _ rfl
          have z5 := Z6.out.cell 5 _ rfl
          have z6 := Z6.out.cell 6 _ rfl
          have z7 := Z6.out.cell 7 _ rfl
          have y0 := Z6.out.frozen 0
          have y1 := Z6.out.frozen 1
          have y2 := Z6.out.frozen 2
          have y3 := Z6.out.frozen 3
          have y4 := Z6.out.frozen 4
          have y5 := Z6.out.frozen 5
          have y6 := Z6.out.frozen 6
          have y7 := Z6.out.frozen 7
          go_wp2
          have hL := HL.out
          change bodyPost _ _ _ _ _ (put8 w6 w.heap.size (.int .i64 kd) (.int .i64 ver) (.slice A14 n14 c14) (.slice A15 n15 c15) (.slice none 0 0) (.int .i64 0) (.int .i64 nm) (.int .i64 (f % 4 + 1)))
          have o8 := put8_only w6 w.heap.size (.int .i64 kd) (.int .i64 ver) (.slice A14 n14 c14) (.slice A15 n15 c15) (.slice none 0 0) (.int .i64 0) (.int .i64 nm) (.int .i64 (f % 4 + 1))
          have B8 := put8_blk Z6.out (.int .i64 kd) (.int .i64 ver) (.slice A14 n14 c14) (.slice A15 n15 c15) (.slice none 0 0) (.int .i64 0) (.int .i64 nm) (.int .i64 (f % 4 + 1))
          clear b0 b1 b2 b3 b4 b5 b6 b7 z0 z1 z2 z3 z4 z5 z6 z7 y0 y1 y2 y3 y4 y5 y6 y7
          generalize put8 w6 w.heap.size (.int .i64 kd) (.int .i64 ver) (.slice A14 n14 c14) (.slice A15 n15 c15) (.slice none 0 0) (.int .i64 0) (.int .i64 nm) (.int .i64 (f % 4 + 1)) = w8 at *
          have x0 := B8.cell 0 _ rfl
          have x1 := B8.cell 1 _ rfl
          have x2 := B8.cell 2 _ rfl
          have x3 := B8.cell 3 _ rfl
          have x4 := B8.cell 4 _ rfl
          have x5 := B8.cell 5 _ rfl
          have x6 := B8.cell 6 _ rfl
          have x7 := B8.cell 7 _ rfl
          clear B8
          have hrr := HR21.out
          subst hrr
          refine bodyPost_ret (v := .tuple #[.agg #[.int .i64 kd, .int .i64 ver, .slice A14 n14 c14, .slice A15 n15 c15, .slice none 0 0, .int .i64 0, .int .i64 nm, .int .i64 (f % 4 + 1)], .int .i64 ((p17 : Int) + n)]) ?_ rfl ?_
          · simp [results, Tryd.results34, go_sem, x0, x1, x2, x3, x4, x5, x6, x7]
          · clear x0 x1 x2 x3 x4 x5 x6 x7
            have hV14 := rowK V14'.out o8 (fun k e => by have := V14s.out; omega)
            have hV15 := rowK V15'.out o8 (fun k e => by have := V15s.out; omega)
            have h1 := V14s.out; have h2 := V15s.out; have h4 := V15o.out
            refine ⟨_, _, _, rfl, ⟨s14, s15, t15, t15, by omega, by omega, by omega, Nat.le_refl _, Kd.R_mono hV14 (fun k hk => ⟨hk.1, by omega⟩), hV15, Kd.R_nil _ _ _ _ _⟩, R6.out.only o8 (by omega) (by have := R6.out.lo; have := R6.out.bl.size; omega), ?_⟩
            have := O6.out
            exact ⟨o8.os.trans this.os, o8.tape.trans this.tape, o8.output.trans this.output, Nat.le_trans this.size o8.size, fun k hk hn => (o8.block k (Nat.lt_of_lt_of_le hk this.size) (fun e => by omega)).trans (this.block k hk hn)⟩
end Go.Proofs.YtpihkmpcnkhnfaaDoor.Hr
namespace Go.Proofs.YtpihkmpcnkhnfaaDoor.Hr
open Go Go.RowKit Go.Proofs.YtpihkmpcnkhnfaaDoorW.PrintWords Go.Proofs.YtpihkmpcnkhnfaaDoorW.PrintLast Go.Proofs.YtpihkmpcnkhnfaaDoorW.PrintMore
open Go.Proofs.YtpihkmpcnkhnfaaDoor.Onl (Only)
open Go.Proofs.YtpihkmpcnkhnfaaDoor.Vn (vread vsize num)
set_option linter.unusedVariables false
set_option linter.unusedSimpArgs false
theorem boxed_only {p : Nat → Prop} {W W' : World} {B t : Nat} {u : Value} (h : Boxed W B t u) (ho : Only p W W') (hp : ¬ p B) : Boxed W' B t u := (ho.block B h.lt hp).trans h
structure Bx (w : World) (h0 h1 h2 h3 : Nat) (cs : List Value) (s e n : Int) : Prop where
  b : Blk w h0 cs
  s : Boxed w h1 3 (.int .i64 s)
  e : Boxed w h2 3 (.int .i64 e)
  n : Boxed w h3 24 (.int .i64 n)
set_option maxRecDepth 100000 in
theorem catch_idle (h0 h1 h2 h3 : Nat) (w : World) :
    CallsD Tryd.prog 33 #[.pointer (some ⟨h0, 0, none⟩), .pointer (some ⟨h1, 0, none⟩), .pointer (some ⟨h2, 0, none⟩), .pointer (some ⟨h3, 0, none⟩)] .returning w fun e u' w' => e = .returned (.tuple #[]) ∧ u' = .returning ∧ w' = w := by
  refine callsD_of_wpS Tryd.func33 rfl fun c₀ cs hu => ?_
  simp only [Tryd.ntmps33, List.size_toArray, List.length_cons, List.length_nil, Nat.reduceAdd, Nat.reduceSub, Array.replicate_succ, Array.replicate_zero, List.push_toArray, List.append_toArray, List.nil_append, List.cons_append]
  apply wpS_seq
  apply wpS_region
  simp [wpOpsS, go_sem, recoverD, hu, Exit.thenS]
  refine wpS_of_wp ?_
  go_wp2
  cases c₀
  simp_all [bodyPostS, results, Tryd.results33]
set_option maxHeartbeats 2000000 in
set_option maxRecDepth 100000 in
theorem catch_panicking {h0 h1 h2 h3 : Nat} {w : World} {s n e0 : Int} (hB : Bx w h0 h1 h2 h3 [.int .i64 0, .int .i64 0, .slice none 0 0, .slice none 0 0, .slice none 0 0, .int .i64 0, .int .i64 0, .int .i64 0] s e0 n) (lay : h0 < h1 ∧ h1 < h2 ∧ h2 < h3) (e : Int) :
    CallsD Tryd.prog 33 #[.pointer (some ⟨h0, 0, none⟩), .pointer (some ⟨h1, 0, none⟩), .pointer (some ⟨h2, 0, none⟩), .pointer (some ⟨h3, 0, none⟩)] (.panicking (wrong e)) w fun en u' w' =>
      en = .returned (.tuple #[]) ∧ u' = .panicking [{ v := .iface 71 (.agg #[.int .i64 e]), recovered := true }] ∧ Bx w' h0 h1 h2 h3 [.int .i64 0, .int .i64 0, .slice none 0 0, .slice none 0 0, .slice none 0 0, .int .i64 0, .int .i64 0, .int .i64 0] 0 0 e ∧ Only (fun k => k = h0 ∨ k = h1 ∨ k = h2 ∨ k = h3) w w' := by
  unfold wrong
  refine callsD_of_wpS Tryd.func33 rfl fun c₀ cs hu => ?_
  simp only [Tryd.ntmps33, List.size_toArray, List.length_cons, List.length_nil, Nat.reduceAdd, Nat.reduceSub, Array.replicate_succ, Array.replicate_zero, List.push_toArray, List.append_toArray, List.nil_append, List.cons_append]
  apply wpS_seq
  apply wpS_region
  simp [wpOpsS, go_sem, recoverD, hu, Exit.thenS]
  refine wpS_of_wp ?_
  have HB := Aside0.mk hB
  have HY := Aside0.mk lay
  clear hB lay
  have hta : ∀ W : World, (Instr.typeAssert (.iface 71 (.agg #[.int .i64 e])) 20 71 true).run Tryd.prog W = .ok (.tuple #[.agg #[.int .i64 e], .bool true]) W := fun W => by kernel_rfl
  go_upto_region 5 with (fail)
  have hz := HB.out
  have hy := HY.out
  have hlt := hz.n.lt
  have B1 := hz.b.only ((Only.refl (fun _ => False) w).alloc (.cells #[.int .i64 e] 71)) (fun q => q)
  have s1 := hz.s.alloc (.cells #[.int .i64 e] 71)
  have s2 := hz.e.alloc (.cells #[.int .i64 e] 71)
  have s3 := hz.n.alloc (.cells #[.int .i64 e] 71)
  have xc : (w.alloc (.cells #[.int .i64 e] 71)).cell? ⟨w.heap.size, 0, none⟩ = some (.int .i64 e) := by rw [World.cell?_alloc_at _ _ _ _ rfl]; rfl
  have O1 := Aside0.mk ((Only.refl (fun k => k = h0 ∨ k = h1 ∨ k = h2 ∨ k = h3) w).alloc (.cells #[.int .i64 e] 71))
  clear hta hz
  generalize w.alloc (.cells #[.int .i64 e] 71) = wa at *
  obtain ⟨xb, hxb⟩ : ∃ xb, w.heap.size = xb := ⟨_, rfl⟩
  rw [hxb] at xc hlt ⊢
  have dh0h1 : ¬ (h0 = h1) := by omega
  have dh0h2 : ¬ (h0 = h2) := by omega
  have dh0h3 : ¬ (h0 = h3) := by omega
  have dh0xb : ¬ (h0 = xb) := by omega
  have dh1h0 : ¬ (h1 = h0) := by omega
  have dh1h2 : ¬ (h1 = h2) := by omega
  have dh1h3 : ¬ (h1 = h3) := by omega
  have dh1xb : ¬ (h1 = xb) := by omega
  have dh2h0 : ¬ (h2 = h0) := by omega
  have dh2h1 : ¬ (h2 = h1) := by omega
  have dh2h3 : ¬ (h2 = h3) := by omega
  have dh2xb : ¬ (h2 = xb) := by omega
  have dh3h0 : ¬ (h3 = h0) := by omega
  have dh3h1 : ¬ (h3 = h1) := by omega
  have dh3h2 : ¬ (h3 = h2) := by omega
  have dh3xb : ¬ (h3 = xb) := by omega
  have dxbh0 : ¬ (xb = h0) := by omega
  have dxbh1 : ¬ (xb = h1) := by omega
  have dxbh2 : ¬ (xb = h2) := by omega
  have dxbh3 : ¬ (xb = h3) := by omega
  have b0 := B1.cell 0 _ rfl
  have y0 := B1.frozen 0
  have b1 := B1.cell 1 _ rfl
  have y1 := B1.frozen 1
  have b2 := B1.cell 2 _ rfl
  have y2 := B1.frozen 2
  have b3 := B1.cell 3 _ rfl
  have y3 := B1.frozen 3
  have b4 := B1.cell 4 _ rfl
  have y4 := B1.frozen 4
  have b5 := B1.cell 5 _ rfl
  have y5 := B1.frozen 5
  have b6 := B1.cell 6 _ rfl
  have y6 := B1.frozen 6
  have b7 := B1.cell 7 _ rfl
  have y7 := B1.frozen 7
  have c1 := s1.cell
  have c2 := s2.cell
  have c3 := s3.cell
  have g1 := s1.frozen
  have g2 := s2.frozen
  have g3 := s3.frozen
  have B1' := Aside0.mk B1
  have S1 := Aside0.mk s1
  have S2 := Aside0.mk s2
  have S3 := Aside0.mk s3
  clear B1 s1 s2 s3 hy hlt hxb
  go_region
  have hy := HY.out
  have oA := put8_only wa h0 (.int .i64 0) (.int .i64 0) (.slice none 0 0) (.slice none 0 0) (.slice none 0 0) (.int .i64 0) (.int .i64 0) (.int .i64 0)
  have bA := put8_blk B1'.out (.int .i64 0) (.int .i64 0) (.slice none 0 0) (.slice none 0 0) (.slice none 0 0) (.int .i64 0) (.int .i64 0) (.int .i64 0)
  have oB := (Only.refl (fun k => k = h1) (put8 wa h0 (.int .i64 0) (.int .i64 0) (.slice none 0 0) (.slice none 0 0) (.slice none 0 0) (.int .i64 0) (.int .i64 0) (.int .i64 0))).setCell (ad := ⟨h1, 0, none⟩) rfl (.int .i64 0)
  have oC := (Only.refl (fun k => k = h2) ((put8 wa h0 (.int .i64 0) (.int .i64 0) (.slice none 0 0) (.slice none 0 0) (.slice none 0 0) (.int .i64 0) (.int .i64 0) (.int .i64 0)).setCell ⟨h1, 0, none⟩ (.int .i64 0))).setCell (ad := ⟨h2, 0, none⟩) rfl (.int .i64 0)
  have oD := (Only.refl (fun k => k = h3) (((put8 wa h0 (.int .i64 0) (.int .i64 0) (.slice none 0 0) (.slice none 0 0) (.slice none 0 0) (.int .i64 0) (.int .i64 0) (.int .i64 0)).setCell ⟨h1, 0, none⟩ (.int .i64 0)).setCell ⟨h2, 0, none⟩ (.int .i64 0))).setCell (ad := ⟨h3, 0, none⟩) rfl (.int .i64 e)
  have b4_ := (((bA.only oB (by omega)).only oC (by omega)).only oD (by omega)).only ((Only.refl (fun _ => False) _).drew) (fun q => q)
  have s1_ := boxed_only (boxed_only (boxed_only ((boxed_only S1.out oA (by omega)).set (.int .i64 0)) oC (by omega)) oD (by omega)) ((Only.refl (fun _ => False) _).drew) (fun q => q)
  have s2_ := boxed_only (boxed_only ((boxed_only (boxed_only S2.out oA (by omega)) oB (by omega)).set (.int .i64 0)) oD (by omega)) ((Only.refl (fun _ => False) _).drew) (fun q => q)
  have s3_ := boxed_only ((boxed_only (boxed_only (boxed_only S3.out oA (by omega)) oB (by omega)) oC (by omega)).set (.int .i64 e)) ((Only.refl (fun _ => False) _).drew) (fun q => q)
  have oo := ((((oA.imp (q := fun k => k = h0 ∨ k = h1 ∨ k = h2 ∨ k = h3) (fun k _ q => Or.inl q)).trans (oB.imp (fun k _ q => Or.inr (Or.inl q)))).trans (oC.imp (fun k _ q => Or.inr (Or.inr (Or.inl q))))).trans (oD.imp (fun k _ q => Or.inr (Or.inr (Or.inr q))))).drew
  exact ⟨rfl, _, rfl, _, results_none rfl _ _ _, rfl, rfl, ⟨b4_, s1_, s2_, s3_⟩, O1.out.trans oo⟩
end Go.Proofs.YtpihkmpcnkhnfaaDoor.Hr
namespace Go.Proofs.YtpihkmpcnkhnfaaDoor.Hr
open Go Go.RowKit Go.Proofs.YtpihkmpcnkhnfaaDoorW.PrintWords Go.Proofs.YtpihkmpcnkhnfaaDoorW.PrintLast Go.Proofs.YtpihkmpcnkhnfaaDoorW.PrintMore
open Go.Proofs.YtpihkmpcnkhnfaaDoor.Onl (Only)
open Go.Proofs.YtpihkmpcnkhnfaaDoor.Vn (vread vsize num)
set_option linter.unusedVariables false
set_option linter.unusedSimpArgs false
def hread (l : List Int) : HRes := match rdN l 0 1 with
  | .error e => .error e
  | .ok (f, p) => if f < 192 then hShort l f p else hLong l f p
theorem head_post {w0 w : World} {rb : Nat} {A : Option Addr} {c : Nat} {l : List Int} (h : Rdr w0 w rb A c l 0) :
    Calls Tryd.prog 34 #[.pointer (some ⟨rb, 0, none⟩)] w (HeadPost w0 w rb A c l (hread l)) := by
  unfold hread
  rcases hf : rdN l 0 1 with e | ⟨f, p⟩
  · exact header_none h e hf
  · have h0 := rdN_nn h.by_ hf
    have hp : p = 1 ∧ f ≤ 255 := by
      unfold rdN at hf
      by_cases hn : 0 + 1 ≤ l.length
      · rw [if_pos hn] at hf
        injection hf with hf
        injection hf with h1 h2
        have hb := numF_bd 1 ((l.drop 0).take 1) (by simp; omega) (fun x hx => h.by_ x (List.mem_of_mem_drop (List.mem_of_mem_take hx)))
        exact ⟨h2.symm, by omega⟩
      · rw [if_neg hn] at hf; cases hf
    obtain ⟨rfl, h255⟩ := hp
    by_cases hlt : f < 192
    · show Calls _ _ _ _ (HeadPost w0 w rb A c l (if f < 192 then hShort l f 1 else hLong l f 1))
      rw [if_pos hlt]
      exact header_short h f hf h0 hlt
    · show Calls _ _ _ _ (HeadPost w0 w rb A c l (if f < 192 then hShort l f 1 else hLong l f 1))
      rw [if_neg hlt]
      exact header_long h f hf (by omega) h255
def rw5 (w : World) (A : Option Addr) (n c : Nat) : World := ((((w.alloc (.cells #[.int .i64 0, .int .i64 0, .slice none 0 0, .slice none 0 0, .slice none 0 0, .int .i64 0, .int .i64 0, .int .i64 0] 33)).alloc (.cells #[.int .i64 0] 3)).alloc (.cells #[.int .i64 0] 3)).alloc (.cells #[.int .i64 0] 24)).alloc (.cells #[.slice A n c, .int .i64 0] 75)
theorem rw5_facts (w : World) (A : Option Addr) (c : Nat) (l : List Int) (hC : Kd.C (Kd.int .u8) w A l.length l) (hc : l.length ≤ c) (hl : l.length ≤ 100000) (hB : ∀ x ∈ l, 0 ≤ x ∧ x ≤ 255) :
    Bx (rw5 w A l.length c) w.heap.size (w.heap.size + 1) (w.heap.size + 1 + 1) (w.heap.size + 1 + 1 + 1) [.int .i64 0, .int .i64 0, .slice none 0 0, .slice none 0 0, .slice none 0 0, .int .i64 0, .int .i64 0, .int .i64 0] 0 0 0 ∧ Rdr w (rw5 w A l.length c) (w.heap.size + 1 + 1 + 1 + 1) A c l 0 ∧ (rw5 w A l.length c).heap.size = w.heap.size + 1 + 1 + 1 + 1 + 1 := by
  have sz : (rw5 w A l.length c).heap.size = w.heap.size + 1 + 1 + 1 + 1 + 1 := by unfold rw5; simp only [World.size_alloc]
  have bl : Below w.heap.size w (rw5 w A l.length c) := below_alloc (below_alloc (below_alloc (below_alloc (below_alloc (Below.refl _ _) _) _) _) _) _
  have s4 : ((((w.alloc (.cells #[.int .i64 0, .int .i64 0, .slice none 0 0, .slice none 0 0, .slice none 0 0, .int .i64 0, .int .i64 0, .int .i64 0] 33)).alloc (.cells #[.int .i64 0] 3)).alloc (.cells #[.int .i64 0] 3)).alloc (.cells #[.int .i64 0] 24)).heap.size = w.heap.size + 1 + 1 + 1 + 1 := by simp only [World.size_alloc]
  have f : ∀ o : Obj, ∀ W : World, Only (fun _ => False) W (W.alloc o) := fun o W => (Only.refl _ W).alloc o
  refine ⟨⟨?_, ?_, ?_, ?_⟩, ⟨?_, ?_, ?_, by omega, bl, hC, hc, hl, Nat.zero_le _, hB⟩, sz⟩
  · exact ((((Blk.new w [.int .i64 0, .int .i64 0, .slice none 0 0, .slice none 0 0, .slice none 0 0, .int .i64 0, .int .i64 0, .int .i64 0]).only (f _ _) (fun q => q)).only (f _ _) (fun q => q)).only (f _ _) (fun q => q)).only (f _ _) (fun q => q)
  · have h := Boxed.new (w.alloc (.cells #[.int .i64 0, .int .i64 0, .slice none 0 0, .slice none 0 0, .slice none 0 0, .int .i64 0, .int .i64 0, .int .i64 0] 33)) 3 (.int .i64 0)
    rw [World.size_alloc] at h
    exact ((h.alloc _).alloc _).alloc _
  · have h := Boxed.new ((w.alloc (.cells #[.int .i64 0, .int .i64 0, .slice none 0 0, .slice none 0 0, .slice none 0 0, .int .i64 0, .int .i64 0, .int .i64 0] 33)).alloc (.cells #[.int .i64 0] 3)) 3 (.int .i64 0)
    rw [World.size_alloc, World.size_alloc] at h
    exact (h.alloc _).alloc _
  · have h := Boxed.new (((w.alloc (.cells #[.int .i64 0, .int .i64 0, .slice none 0 0, .slice none 0 0, .slice none 0 0, .int .i64 0, .int .i64 0, .int .i64 0] 33)).alloc (.cells #[.int .i64 0] 3)).alloc (.cells #[.int .i64 0] 3)) 24 (.int .i64 0)
    rw [World.size_alloc, World.size_alloc, World.size_alloc] at h
    exact h.alloc _
  · unfold rw5; rw [World.cell?_alloc_at _ _ _ _ s4.symm]; rfl
  · unfold rw5; rw [World.cell?_alloc_at _ _ _ _ s4.symm]; rfl
  · unfold rw5; exact World.frozen?_alloc_at _ _ _ _ s4.symm
set_option maxHeartbeats 2000000 in
set_option maxRecDepth 100000 in
theorem read_error (w : World) (A : Option Addr) (c : Nat) (l : List Int) (hC : Kd.C (Kd.int .u8) w A l.length l) (hc : l.length ≤ c) (hl : l.length ≤ 100000) (hB : ∀ x ∈ l, 0 ≤ x ∧ x ≤ 255) (e : Int) (he : hread l = .error e) :
    Calls Tryd.prog 26 #[.slice A l.length c] w fun en w' => en = .returned (.tuple #[.agg #[.int .i64 0, .int .i64 0, .slice none 0 0, .slice none 0 0, .slice none 0 0, .int .i64 0, .int .i64 0, .int .i64 0], .int .i64 0, .int .i64 0, .int .i64 e]) ∧ Below w.heap.size w w' := by
  have hmf : ∀ (fn : Fn) (first cap : Array Value) (w : World), (Instr.makeFunc fn first cap).run Tryd.prog w = .ok (.func fn first cap) w := fun _ _ _ _ => rfl
  have HE := Aside0.mk he
  have HC := Aside0.mk hC
  have HB := Aside0.mk hB
  have HL := Aside0.mk hl
  have HCc := Aside0.mk hc
  clear he hC hB hl hc
  go_enter_defers Tryd.func26, Tryd.ntmps26
  go_upto_region 3 with (fail)
  change Code.wp _ _ _ _ (rw5 w A l.length c)
  obtain ⟨hBx, hR, hsz⟩ := rw5_facts w A c l HC.out HCc.out HL.out HB.out
  generalize rw5 w A l.length c = w5 at *
  obtain ⟨H1, e1⟩ : ∃ H1, w.heap.size + 1 = H1 := ⟨_, rfl⟩
  rw [e1] at hBx hR hsz ⊢
  obtain ⟨H2, e2⟩ : ∃ H2, H1 + 1 = H2 := ⟨_, rfl⟩
  rw [e2] at hBx hR hsz ⊢
  obtain ⟨H3, e3⟩ : ∃ H3, H2 + 1 = H3 := ⟨_, rfl⟩
  rw [e3] at hBx hR hsz ⊢
  obtain ⟨rb, e4⟩ : ∃ rb, H3 + 1 = rb := ⟨_, rfl⟩
  rw [e4] at hR hsz ⊢
  have LY := Aside0.mk (show w.heap.size < H1 ∧ H1 < H2 ∧ H2 < H3 ∧ H3 < rb ∧ w5.heap.size = rb + 1 by omega)
  have BX := Aside0.mk hBx
  have RD := Aside0.mk hR
  clear e1 e2 e3 e4 hBx hR hsz
  have HP := head_post RD.out
  rw [HE.out] at HP
  go_wp2_with (go_at_call 34; refine HP.mono ?_; rintro e1 w6 ⟨rfl, ho⟩; have HO := Aside0.mk ho; clear ho)
  have hL := LY.out
  have bx := BX.out
  have hb6 : Bx w6 w.heap.size H1 H2 H3 [.int .i64 0, .int .i64 0, .slice none 0 0, .slice none 0 0, .slice none 0 0, .int .i64 0, .int .i64 0, .int .i64 0] 0 0 0 :=
    ⟨bx.b.only HO.out (by omega), boxed_only bx.s HO.out (by omega), boxed_only bx.e HO.out (by omega), boxed_only bx.n HO.out (by omega)⟩
  refine leaves_cons (f := 33) (args := #[.pointer (some ⟨w.heap.size, 0, none⟩), .pointer (some ⟨H1, 0, none⟩), .pointer (some ⟨H2, 0, none⟩), .pointer (some ⟨H3, 0, none⟩)]) (by simp) (by simp [go_sem]) ?_
  refine (catch_panicking hb6 (by omega) e).mono ?_
  rintro en u' w7 ⟨rfl, rfl, hb7, ho7⟩
  have x0 := hb7.b.cell 0 _ rfl
  have x1 := hb7.b.cell 1 _ rfl
  have x2 := hb7.b.cell 2 _ rfl
  have x3 := hb7.b.cell 3 _ rfl
  have x4 := hb7.b.cell 4 _ rfl
  have x5 := hb7.b.cell 5 _ rfl
  have x6 := hb7.b.cell 6 _ rfl
  have x7 := hb7.b.cell 7 _ rfl
  have y1 := hb7.s.cell
  have y2 := hb7.e.cell
  have y3 := hb7.n.cell
  have hbl : Below w.heap.size w w7 := RD.out.bl.trans ((HO.out.below (by omega) (fun k q => by omega)).trans (ho7.below (by have := HO.out.size; omega) (fun k q => by omega)))
  clear hL bx hb6 hb7 ho7 HO
  simp [Leaves, settle, results, Tryd.results26, go_sem, x0, x1, x2, x3, x4, x5, x6, x7, y1, y2, y3]
  exact hbl
def ReadPost (w : World) (fl : Flds) (p : Nat) (fin : Int) (en : Ending) (w' : World) : Prop :=
  ∃ v2 v3 v4 : Value, en = .returned (.tuple #[.agg #[.int .i64 fl.1, .int .i64 fl.2.1, v2, v3, v4, .int .i64 fl.2.2.2.2.2.1, .int .i64 fl.2.2.2.2.2.2.1, .int .i64 fl.2.2.2.2.2.2.2], .int .i64 p, .int .i64 fin, .int .i64 0]) ∧
    (∃ s1 s2 s3 s4 : Nat, w.heap.size ≤ s1 ∧ s1 ≤ s2 ∧ s2 ≤ s3 ∧ s3 ≤ s4 ∧ Kd.R (Kd.int .u8) 5 w' s1 (fun k => s1 ≤ k ∧ k < s2) v2 fl.2.2.1 ∧ Kd.R (Kd.int .u8) 5 w' s2 (fun k => s2 ≤ k ∧ k < s3) v3 fl.2.2.2.1 ∧ Kd.R (Kd.int .u8) 5 w' s3 (fun k => s3 ≤ k ∧ k < s4) v4 fl.2.2.2.2.1) ∧ Below w.heap.size w w'
set_option maxHeartbeats 4000000 in
set_option maxRecDepth 100000 in
theorem read_good (w : World) (A : Option Addr) (c : Nat) (l : List Int) (hC : Kd.C (Kd.int .u8) w A l.length l) (hc : l.length ≤ c) (hl : l.length ≤ 100000) (hB : ∀ x ∈ l, 0 ≤ x ∧ x ≤ 255) (fl : Flds) (p : Nat) (fin : Int) (he : hread l = .ok (fl, p, fin)) :
    Calls Tryd.prog 26 #[.slice A l.length c] w (ReadPost w fl p fin) := by
  obtain ⟨kd, ver, tO, fr, tk, ph, nm, wd⟩ := fl
  have hmf : ∀ (fn : Fn) (first cap : Array Value) (w : World), (Instr.makeFunc fn first cap).run Tryd.prog w = .ok (.func fn first cap) w := fun _ _ _ _ => rfl
  have HE := Aside0.mk he
  have HC := Aside0.mk hC
  have HB := Aside0.mk hB
  have HL := Aside0.mk hl
  have HCc := Aside0.mk hc
  clear he hC hB hl hc
  go_enter_defers Tryd.func26, Tryd.ntmps26
  go_upto_region 3 with (fail)
  change Code.wp _ _ _ _ (rw5 w A l.length c)
  obtain ⟨hBx, hR, hsz⟩ := rw5_facts w A c l HC.out HCc.out HL.out HB.out
  generalize rw5 w A l.length c = w5 at *
  obtain ⟨H1, e1⟩ : ∃ H1, w.heap.size + 1 = H1 := ⟨_, rfl⟩
  rw [e1] at hBx hR hsz ⊢
  obtain ⟨H2, e2⟩ : ∃ H2, H1 + 1 = H2 := ⟨_, rfl⟩
  rw [e2] at hBx hR hsz ⊢
  obtain ⟨H3, e3⟩ : ∃ H3, H2 + 1 = H3 := ⟨_, rfl⟩
  rw [e3] at hBx hR hsz ⊢
  obtain ⟨rb, e4⟩ : ∃ rb, H3 + 1 = rb := ⟨_, rfl⟩
  rw [e4] at hR hsz ⊢
  have LY := Aside0.mk (show w.heap.size < H1 ∧ H1 < H2 ∧ H2 < H3 ∧ H3 < rb ∧ w5.heap.size = rb + 1 by omega)
  have BX := Aside0.mk hBx
  have RD := Aside0.mk hR
  clear e1 e2 e3 e4 hBx hR hsz
  have HP := head_post RD.out
  rw [HE.out] at HP
  go_upto_region 4 with (go_at_call 34; refine HP.mono ?_; rintro e1 w6 ⟨v2, v3, v4, rfl, ⟨s1, s2, s3, s4, hs0, hs1, hs2, hs3, hv2, hv3, hv4⟩, hr6, ho⟩; obtain ⟨Aa, ca, ea⟩ := Kd.R_slice hv2; obtain ⟨na, hna⟩ : ∃ n, tO.length = n := ⟨_, rfl⟩; rw [hna] at ea; clear hna; subst ea; obtain ⟨Ab, cb, eb⟩ := Kd.R_slice hv3; obtain ⟨nb, hnb⟩ : ∃ n, fr.length = n := ⟨_, rfl⟩; rw [hnb] at eb; clear hnb; subst eb; obtain ⟨Ac, cc, ec⟩ := Kd.R_slice hv4; obtain ⟨nc, hnc⟩ : ∃ n, tk.length = n := ⟨_, rfl⟩; rw [hnc] at ec; clear hnc; subst ec; have HO := Aside0.mk ho; have V2 := Aside0.mk hv2; have V3 := Aside0.mk hv3; have V4 := Aside0.mk hv4; have SS := Aside0.mk (show w5.heap.size ≤ s1 ∧ s1 ≤ s2 ∧ s2 ≤ s3 ∧ s3 ≤ s4 from ⟨hs0, hs1, hs2, hs3⟩); have R6 := Aside0.mk hr6; have hL := LY.out; have bx := BX.out; have B6 := Aside0.mk (bx.b.only ho (by omega)); have S1 := Aside0.mk (boxed_only bx.s ho (by omega)); have S2 := Aside0.mk (boxed_only bx.e ho (by omega)); have S3 := Aside0.mk (boxed_only bx.n ho (by omega)); clear ho hv2 hv3 hv4 hs0 hs1 hs2 hs3 hr6 bx; have z0 := B6.out.cell 0 _ rfl; have z1 := B6.out.cell 1 _ rfl; have z2 := B6.out.cell 2 _ rfl; have z3 := B6.out.cell 3 _ rfl; have z4 := B6.out.cell 4 _ rfl; have z5 := B6.out.cell 5 _ rfl; have z6 := B6.out.cell 6 _ rfl; have z7 := B6.out.cell 7 _ rfl; have y0 := B6.out.frozen 0; have y1 := B6.out.frozen 1; have y2 := B6.out.frozen 2; have y3 := B6.out.frozen 3; have y4 := B6.out.frozen 4; have y5 := B6.out.frozen 5; have y6 := B6.out.frozen 6; have y7 := B6.out.frozen 7; have c2 := S2.out.cell; have g2 := S2.out.frozen; have n1 : ¬ (H2 = w.heap.size) := (by omega); have n2 : ¬ (w.heap.size = H2) := (by omega); clear hL)
  have hL := LY.out
  change Code.wp _ _ _ _ ((put8 w6 w.heap.size (.int .i64 kd) (.int .i64 ver) (.slice Aa na ca) (.slice Ab nb cb) (.slice Ac nc cc) (.int .i64 ph) (.int .i64 nm) (.int .i64 wd)).setCell ⟨H2, 0, none⟩ (.int .i64 fin))
  have oA := put8_only w6 w.heap.size (.int .i64 kd) (.int .i64 ver) (.slice Aa na ca) (.slice Ab nb cb) (.slice Ac nc cc) (.int .i64 ph) (.int .i64 nm) (.int .i64 wd)
  have bA := put8_blk B6.out (.int .i64 kd) (.int .i64 ver) (.slice Aa na ca) (.slice Ab nb cb) (.slice Ac nc cc) (.int .i64 ph) (.int .i64 nm) (.int .i64 wd)
  have oC := (Only.refl (fun k => k = H2) (put8 w6 w.heap.size (.int .i64 kd) (.int .i64 ver) (.slice Aa na ca) (.slice Ab nb cb) (.slice Ac nc cc) (.int .i64 ph) (.int .i64 nm) (.int .i64 wd))).setCell (ad := ⟨H2, 0, none⟩) rfl (.int .i64 fin)
  have B7 := Aside0.mk (bA.only oC (by omega))
  have S17 := Aside0.mk (boxed_only (boxed_only S1.out oA (by omega)) oC (by omega))
  have S27 := Aside0.mk ((boxed_only S2.out oA (by omega)).set (.int .i64 fin))
  have S37 := Aside0.mk (boxed_only (boxed_only S3.out oA (by omega)) oC (by omega))
  have R7 := Aside0.mk ((R6.out.only oA (by omega) (Nat.le_refl _)).only oC (by omega) (by omega))
  have SSo := SS.out
  have V27 := Aside0.mk (rowK (rowK V2.out oA (fun k q => by omega)) oC (fun k q => by omega))
  have V37 := Aside0.mk (rowK (rowK V3.out oA (fun k q => by omega)) oC (fun k q => by omega))
  have V47 := Aside0.mk (rowK (rowK V4.out oA (fun k q => by omega)) oC (fun k q => by omega))
  clear SSo oA oC bA B6 S1 S2 S3 R6 V2 V3 V4 z0 z1 z2 z3 z4 z5 z6 z7 y0 y1 y2 y3 y4 y5 y6 y7 c2 g2 HP
  generalize (put8 w6 w.heap.size (.int .i64 kd) (.int .i64 ver) (.slice Aa na ca) (.slice Ab nb cb) (.slice Ac nc cc) (.int .i64 ph) (.int .i64 nm) (.int .i64 wd)).setCell ⟨H2, 0, none⟩ (.int .i64 fin) = w7 at *
  have z0 := B7.out.cell 0 _ rfl
  have z1 := B7.out.cell 1 _ rfl
  have z2 := B7.out.cell 2 _ rfl
  have z3 := B7.out.cell 3 _ rfl
  have z4 := B7.out.cell 4 _ rfl
  have z5 := B7.out.cell 5 _ rfl
  have z6 := B7.out.cell 6 _ rfl
  have z7 := B7.out.cell 7 _ rfl
  have y0 := B7.out.frozen 0
  have y1 := B7.out.frozen 1
  have y2 := B7.out.frozen 2
  have y3 := B7.out.frozen 3
  have y4 := B7.out.frozen 4
  have y5 := B7.out.frozen 5
  have y6 := B7.out.frozen 6
  have y7 := B7.out.frozen 7
  have c1 := S17.out.cell
  have g1 := S17.out.frozen
  have c2 := S27.out.cell
  have g2 := S27.out.frozen
  have c3 := S37.out.cell
  have g3 := S37.out.frozen
  have r1 := R7.out.c1
  have m1 : ¬ (H1 = w.heap.size) := by omega
  have m2 : ¬ (w.heap.size = H1) := by omega
  have m3 : ¬ (H3 = w.heap.size) := by omega
  have m4 : ¬ (w.heap.size = H3) := by omega
  have m5 : ¬ (H1 = H2) := by omega
  have m6 : ¬ (H2 = H1) := by omega
  have m7 : ¬ (H1 = H3) := by omega
  have m8 : ¬ (H3 = H1) := by omega
  have m9 : ¬ (H2 = H3) := by omega
  have m10 : ¬ (H3 = H2) := by omega
  have k1 : ¬ (rb = w.heap.size) := by omega
  have k2 : ¬ (w.heap.size = rb) := by omega
  have k3 : ¬ (rb = H1) := by omega
  have k4 : ¬ (H1 = rb) := by omega
  have k5 : ¬ (rb = H2) := by omega
  have k6 : ¬ (H2 = rb) := by omega
  have k7 : ¬ (rb = H3) := by omega
  have k8 : ¬ (H3 = rb) := by omega
  clear hL
  go_region
  have hL := LY.out
  change Exit.then _ _ Exit.normal _ (((((put8 w7 w.heap.size (.int .i64 kd) (.int .i64 ver) (.slice Aa na ca) (.slice Ab nb cb) (.slice Ac nc cc) (.int .i64 ph) (.int .i64 nm) (.int .i64 wd)).setCell ⟨H1, 0, none⟩ (.int .i64 p)).setCell ⟨H2, 0, none⟩ (.int .i64 fin)).setCell ⟨H3, 0, none⟩ (.int .i64 0)).drew)
  have oA := put8_only w7 w.heap.size (.int .i64 kd) (.int .i64 ver) (.slice Aa na ca) (.slice Ab nb cb) (.slice Ac nc cc) (.int .i64 ph) (.int .i64 nm) (.int .i64 wd)
  have bA := put8_blk B7.out (.int .i64 kd) (.int .i64 ver) (.slice Aa na ca) (.slice Ab nb cb) (.slice Ac nc cc) (.int .i64 ph) (.int .i64 nm) (.int .i64 wd)
  have oB := (Only.refl (fun k => k = H1) (put8 w7 w.heap.size (.int .i64 kd) (.int .i64 ver) (.slice Aa na ca) (.slice Ab nb cb) (.slice Ac nc cc) (.int .i64 ph) (.int .i64 nm) (.int .i64 wd))).setCell (ad := ⟨H1, 0, none⟩) rfl (.int .i64 p)
  have oC := (Only.refl (fun k => k = H2) ((put8 w7 w.heap.size (.int .i64 kd) (.int .i64 ver) (.slice Aa na ca) (.slice Ab nb cb) (.slice Ac nc cc) (.int .i64 ph) (.int .i64 nm) (.int .i64 wd)).setCell ⟨H1, 0, none⟩ (.int .i64 p))).setCell (ad := ⟨H2, 0, none⟩) rfl (.int .i64 fin)
  have oD := (Only.refl (fun k => k = H3) (((put8 w7 w.heap.size (.int .i64 kd) (.int .i64 ver) (.slice Aa na ca) (.slice Ab nb cb) (.slice Ac nc cc) (.int .i64 ph) (.int .i64 nm) (.int .i64 wd)).setCell ⟨H1, 0, none⟩ (.int .i64 p)).setCell ⟨H2, 0, none⟩ (.int .i64 fin))).setCell (ad := ⟨H3, 0, none⟩) rfl (.int .i64 0)
  have oE := (Only.refl (fun _ => False) ((((put8 w7 w.heap.size (.int .i64 kd) (.int .i64 ver) (.slice Aa na ca) (.slice Ab nb cb) (.slice Ac nc cc) (.int .i64 ph) (.int .i64 nm) (.int .i64 wd)).setCell ⟨H1, 0, none⟩ (.int .i64 p)).setCell ⟨H2, 0, none⟩ (.int .i64 fin)).setCell ⟨H3, 0, none⟩ (.int .i64 0))).drew
  have B8 := (((bA.only oB (by omega)).only oC (by omega)).only oD (by omega)).only oE (fun q => q)
  have S18 := boxed_only (boxed_only (boxed_only ((boxed_only S17.out oA (by omega)).set (.int .i64 p)) oC (by omega)) oD (by omega)) oE (fun q => q)
  have S28 := boxed_only (boxed_only ((boxed_only (boxed_only S27.out oA (by omega)) oB (by omega)).set (.int .i64 fin)) oD (by omega)) oE (fun q => q)
  have S38 := boxed_only ((boxed_only (boxed_only (boxed_only S37.out oA (by omega)) oB (by omega)) oC (by omega)).set (.int .i64 0)) oE (fun q => q)
  have oo := ((((oA.imp (q := fun k => k = w.heap.size ∨ k = H1 ∨ k = H2 ∨ k = H3) (fun k _ q => Or.inl q)).trans (oB.imp (fun k _ q => Or.inr (Or.inl q)))).trans (oC.imp (fun k _ q => Or.inr (Or.inr (Or.inl q))))).trans (oD.imp (fun k _ q => Or.inr (Or.inr (Or.inr q))))).trans (oE.imp (fun k _ q => q.elim))
  have SSo := SS.out
  have V28 := Aside0.mk (rowK V27.out oo (fun k q => by omega))
  have V38 := Aside0.mk (rowK V37.out oo (fun k q => by omega))
  have V48 := Aside0.mk (rowK V47.out oo (fun k q => by omega))
  have hbl := R7.out.bl.trans (oo.below R7.out.bl.size (fun k q => by omega))
  have HBL := Aside0.mk hbl
  have HLS := Aside0.mk (show w.heap.size ≤ s1 by omega)
  clear z0 z1 z2 z3 z4 z5 z6 z7 y0 y1 y2 y3 y4 y5 y6 y7 c1 g1 c2 g2 c3 g3 r1 m1 m2 m3 m4 m5 m6 m7 m8 m9 m10 k1 k2 k3 k4 k5 k6 k7 k8 oA oB oC oD oE oo bA hL SSo hbl n1 n2
  generalize ((((put8 w7 w.heap.size (.int .i64 kd) (.int .i64 ver) (.slice Aa na ca) (.slice Ab nb cb) (.slice Ac nc cc) (.int .i64 ph) (.int .i64 nm) (.int .i64 wd)).setCell ⟨H1, 0, none⟩ (.int .i64 p)).setCell ⟨H2, 0, none⟩ (.int .i64 fin)).setCell ⟨H3, 0, none⟩ (.int .i64 0)).drew = w8 at *
  have x0 := B8.cell 0 _ rfl
  have x1 := B8.cell 1 _ rfl
  have x2 := B8.cell 2 _ rfl
  have x3 := B8.cell 3 _ rfl
  have x4 := B8.cell 4 _ rfl
  have x5 := B8.cell 5 _ rfl
  have x6 := B8.cell 6 _ rfl
  have x7 := B8.cell 7 _ rfl
  have c1 := S18.cell
  have c2 := S28.cell
  have c3 := S38.cell
  clear B8 S18 S28 S38
  go_wp2
  refine leaves_cons (f := 33) (args := #[.pointer (some ⟨w.heap.size, 0, none⟩), .pointer (some ⟨H1, 0, none⟩), .pointer (some ⟨H2, 0, none⟩), .pointer (some ⟨H3, 0, none⟩)]) (by simp) (by simp [go_sem]) ?_
  refine (catch_idle w.heap.size H1 H2 H3 _).mono ?_
  rintro en u' w9 ⟨rfl, rfl, rfl⟩
  simp [Leaves, settle, results, Tryd.results26, go_sem, x0, x1, x2, x3, x4, x5, x6, x7, c1, c2, c3]
  exact ⟨_, _, _, rfl, ⟨s1, s2, s3, s4, HLS.out, SS.out.2.1, SS.out.2.2.1, SS.out.2.2.2, V28.out, V38.out, V48.out⟩, HBL.out⟩
end Go.Proofs.YtpihkmpcnkhnfaaDoor.Hr
namespace Go.Proofs.YtpihkmpcnkhnfaaDoor.VaP
open Go.RowKit Go.Proofs.YtpihkmpcnkhnfaaDoorW.PrintWords Go.Proofs.YtpihkmpcnkhnfaaDoorW.PrintLast Go.Proofs.YtpihkmpcnkhnfaaDoorW.PrintMore Go.Proofs.YtpihkmpcnkhnfaaDoor.QVa Go.Proofs.YtpihkmpcnkhnfaaDoor.Vn
open Go.Proofs.YtpihkmpcnkhnfaaDoor.Gv (bits_TrailingZeros.f slices_Clone_byte_byte.f varint_Size.f varint_Read.f)
set_option linter.unusedVariables false
set_option linter.unusedSimpArgs false
theorem or_mark (a : Int) (i m : Nat) (h0 : 0 ≤ a) (ha : a < 2 ^ i) (hm : m * 2 ^ i < 18446744073709551616) (hi : (2 : Int) ^ i ≤ 18446744073709551616) : Go.bits .or .u64 a ((m * 2 ^ i : Nat) : Int) = a + ((m * 2 ^ i : Nat) : Int) := by
  rw [u64_or a _ h0 (by omega) (by omega) (by omega), Int.toNat_natCast]
  have hc : ((a.toNat : Nat) : Int) < ((2 ^ i : Nat) : Int) := by rw [Int.toNat_of_nonneg h0]; simpa using ha
  have h := Nat.shiftLeft_add_eq_or_of_lt (i := i) (b := a.toNat) (Int.ofNat_lt.1 hc) m
  rw [Nat.shiftLeft_eq] at h
  rw [Nat.or_comm, ← h]
  omega
theorem shr_0 (x : Int) : shr .u64 x 0 = x := by simp [shr]
theorem shr_8 (x : Int) : shr .u64 x 8 = x / 256 := by simp [shr, IntKind.bits]
theorem shr_16 (x : Int) : shr .u64 x 16 = x / 65536 := by simp [shr, IntKind.bits]
theorem shr_24 (x : Int) : shr .u64 x 24 = x / 16777216 := by simp [shr, IntKind.bits]
theorem shr_32 (x : Int) : shr .u64 x 32 = x / 4294967296 := by simp [shr, IntKind.bits]
theorem shr_40 (x : Int) : shr .u64 x 40 = x / 1099511627776 := by simp [shr, IntKind.bits]
theorem shr_48 (x : Int) : shr .u64 x 48 = x / 281474976710656 := by simp [shr, IntKind.bits]
theorem shr_56 (x : Int) : shr .u64 x 56 = x / 72057594037927936 := by simp [shr, IntKind.bits]
theorem append_step (l : List Int) (x : Int) (j k : Nat) (hj : j ≤ 7) (hl : l.length < 140737488355328) : varint_Append.l0 (k + 1) l x (j : Int) = varint_Append.l0 k (l ++ [shr .u64 x ((8 * j : Nat) : Int) % 256]) x ((j : Int) - 1) := by
  simp only [varint_Append.l0]
  have e1 : wrap64 (8 * (j : Int)) = ((8 * j : Nat) : Int) := by unfold wrap64; omega
  have e2 : wrap64 ((j : Int) - 1) = (j : Int) - 1 := by unfold wrap64; omega
  rw [e1, e2, if_pos (by omega), if_pos (by omega), if_pos hl]
theorem append_end (l : List Int) (x : Int) (k : Nat) : varint_Append.l0 (k + 1) l x (-1) = some l := by
  simp only [varint_Append.l0]
  rw [if_neg (by omega)]
theorem append_f (l : List Int) (n : Int) (hl : l.length ≤ 1000000) (k : Nat) (hk : 9 < k) : varint_Append.f k l n = some (l ++ vbytes n) := by
  obtain ⟨k, rfl⟩ : ∃ m, k = m + 9 := ⟨k - 9, by omega⟩
  unfold varint_Append.f slices_Clone_byte_byte.f varint_Size.f
  rw [if_pos (by omega)]
  simp only [Option.bind_some]
  rcases vsize_cases n with ⟨hn, h, e⟩ | ⟨hn, h, e⟩ | ⟨hn, h, e⟩ | ⟨hn, h, e⟩ | ⟨hn, h, e⟩ <;> rw [h, e]
  · simp
  · have w1 : IntKind.u64.wrap n = n := by simp [IntKind.wrap, IntKind.bits, IntKind.signed]; omega
    have w2 : shl .u64 (IntKind.u64.wrap 0) (wrap64 ((wrap64 (8 * 1)) - 2)) = ((0 * 2 ^ 6 : Nat) : Int) := by decide +kernel
    have w3 : bits_TrailingZeros.f (IntKind.u64.wrap 1) = some 0 := by decide +kernel
    have w4 : wrap64 (1 - 1) = ((0 : Nat) : Int) := by decide +kernel
    rw [if_neg (by decide), w3]
    simp only [Option.bind_some]
    rw [if_pos (by decide +kernel), w1, w2, w4, or_mark n 6 0 hn.1 (by omega) (by omega) (by decide), show (k + 9) = (k + 7) + 1 + 1 from rfl, append_step _ _ 0 _ (by omega) (by omega), show (((0 : Nat) : Int) - 1) = -1 from rfl, append_end]
    congr 2
    simp only [show ((8 * 0 : Nat) : Int) = 0 from rfl, shr_0]
    congr 1; omega
  · have w1 : IntKind.u64.wrap n = n := by simp [IntKind.wrap, IntKind.bits, IntKind.signed]; omega
    have w2 : shl .u64 (IntKind.u64.wrap 1) (wrap64 ((wrap64 (8 * 2)) - 2)) = ((1 * 2 ^ 14 : Nat) : Int) := by decide +kernel
    have w3 : bits_TrailingZeros.f (IntKind.u64.wrap 2) = some 1 := by decide +kernel
    have w4 : wrap64 (2 - 1) = ((1 : Nat) : Int) := by decide +kernel
    rw [if_neg (by decide), w3]
    simp only [Option.bind_some]
    rw [if_pos (by decide +kernel), w1, w2, w4, or_mark n 14 1 (by omega) (by omega) (by omega) (by decide), show (k + 9) = (k + 6) + 1 + 1 + 1 from rfl, append_step _ _ 1 _ (by omega) (by omega), show (((1 : Nat) : Int) - 1) = ((0 : Nat) : Int) from rfl,
      append_step _ _ 0 _ (by omega) (by simp; omega), show (((0 : Nat) : Int) - 1) = -1 from rfl, append_end]
    simp only [show ((8 * 0 : Nat) : Int) = 0 from rfl, show ((8 * 1 : Nat) : Int) = 8 from rfl, shr_0, shr_8, List.append_assoc, List.cons_append, List.nil_append]
    congr 2
    simp only [List.cons.injEq, and_true]
    omega
  · have w1 : IntKind.u64.wrap n = n := by simp [IntKind.wrap, IntKind.bits, IntKind.signed]; omega
    have w2 : shl .u64 (IntKind.u64.wrap 2) (wrap64 ((wrap64 (8 * 4)) - 2)) = ((2 * 2 ^ 30 : Nat) : Int) := by decide +kernel
    have w3 : bits_TrailingZeros.f (IntKind.u64.wrap 4) = some 2 := by decide +kernel
    have w4 : wrap64 (4 - 1) = ((3 : Nat) : Int) := by decide +kernel
    rw [if_neg (by decide), w3]
    simp only [Option.bind_some]
    rw [if_pos (by decide +kernel), w1, w2, w4, or_mark n 30 2 (by omega) (by omega) (by omega) (by decide), show (k + 9) = (k + 4) + 1 + 1 + 1 + 1 + 1 from rfl, append_step _ _ 3 _ (by omega) (by omega), show (((3 : Nat) : Int) - 1) = ((2 : Nat) : Int) from rfl,
      append_step _ _ 2 _ (by omega) (by simp; omega), show (((2 : Nat) : Int) - 1) = ((1 : Nat) : Int) from rfl, append_step _ _ 1 _ (by omega) (by simp; omega), show (((1 : Nat) : Int) - 1) = ((0 : Nat) : Int) from rfl,
      append_step _ _ 0 _ (by omega) (by simp; omega), show (((0 : Nat) : Int) - 1) = -1 from rfl, append_end]
    simp only [show ((8 * 0 : Nat) : Int) = 0 from rfl, show ((8 * 1 : Nat) : Int) = 8 from rfl, show ((8 * 2 : Nat) : Int) = 16 from rfl, show ((8 * 3 : Nat) : Int) = 24 from rfl, shr_0, shr_8, shr_16, shr_24, List.append_assoc, List.cons_append, List.nil_append]
    congr 2
    simp only [List.cons.injEq, and_true]
    omega
  · have w1 : IntKind.u64.wrap n = n := by simp [IntKind.wrap, IntKind.bits, IntKind.signed]; omega
    have w2 : shl .u64 (IntKind.u64.wrap 3) (wrap64 ((wrap64 (8 * 8)) - 2)) = ((3 * 2 ^ 62 : Nat) : Int) := by decide +kernel
    have w3 : bits_TrailingZeros.f (IntKind.u64.wrap 8) = some 3 := by decide +kernel
    have w4 : wrap64 (8 - 1) = ((7 : Nat) : Int) := by decide +kernel
    rw [if_neg (by decide), w3]
    simp only [Option.bind_some]
    rw [if_pos (by decide +kernel), w1, w2, w4, or_mark n 62 3 (by omega) (by omega) (by omega) (by decide), show (k + 9) = k + 1 + 1 + 1 + 1 + 1 + 1 + 1 + 1 + 1 from rfl, append_step _ _ 7 _ (by omega) (by omega), show (((7 : Nat) : Int) - 1) = ((6 : Nat) : Int) from rfl,
      append_step _ _ 6 _ (by omega) (by simp; omega), show (((6 : Nat) : Int) - 1) = ((5 : Nat) : Int) from rfl, append_step _ _ 5 _ (by omega) (by simp; omega), show (((5 : Nat) : Int) - 1) = ((4 : Nat) : Int) from rfl,
      append_step _ _ 4 _ (by omega) (by simp; omega), show (((4 : Nat) : Int) - 1) = ((3 : Nat) : Int) from rfl, append_step _ _ 3 _ (by omega) (by simp; omega), show (((3 : Nat) : Int) - 1) = ((2 : Nat) : Int) from rfl,
      append_step _ _ 2 _ (by omega) (by simp; omega), show (((2 : Nat) : Int) - 1) = ((1 : Nat) : Int) from rfl, append_step _ _ 1 _ (by omega) (by simp; omega), show (((1 : Nat) : Int) - 1) = ((0 : Nat) : Int) from rfl,
      append_step _ _ 0 _ (by omega) (by simp; omega), show (((0 : Nat) : Int) - 1) = -1 from rfl, append_end]
    simp only [show ((8 * 0 : Nat) : Int) = 0 from rfl, show ((8 * 1 : Nat) : Int) = 8 from rfl, show ((8 * 2 : Nat) : Int) = 16 from rfl, show ((8 * 3 : Nat) : Int) = 24 from rfl, show ((8 * 4 : Nat) : Int) = 32 from rfl, show ((8 * 5 : Nat) : Int) = 40 from rfl, show ((8 * 6 : Nat) : Int) = 48 from rfl, show ((8 * 7 : Nat) : Int) = 56 from rfl,
      shr_0, shr_8, shr_16, shr_24, shr_32, shr_40, shr_48, shr_56, List.append_assoc, List.cons_append, List.nil_append]
    congr 2
    simp only [List.cons.injEq, and_true]
    omega
end Go.Proofs.YtpihkmpcnkhnfaaDoor.VaP
namespace Go.Proofs.YtpihkmpcnkhnfaaDoor.Ri
open Go Go.RowKit Go.Proofs.YtpihkmpcnkhnfaaDoorW.PrintWords Go.Proofs.YtpihkmpcnkhnfaaDoorW.PrintLast Go.Proofs.YtpihkmpcnkhnfaaDoorW.PrintMore
open Go.Proofs.YtpihkmpcnkhnfaaDoor.Onl (Only)
open Go.Proofs.YtpihkmpcnkhnfaaDoor.Hr (numF numF_snoc numF_bd info5)
set_option linter.unusedVariables false
set_option linter.unusedSimpArgs false
structure Inn (w0 w : World) (rb : Nat) (A : Option Addr) (c : Nat) (l : List Int) (p : Nat) (e : Int) : Prop where
  c0 : w.cell? ⟨rb, 0, none⟩ = some (.slice A l.length c)
  c1 : w.cell? ⟨rb, 1, none⟩ = some (.int .i64 p)
  c2 : w.cell? ⟨rb, 2, none⟩ = some (.int .i64 e)
  f1 : w.frozen? ⟨rb, 1, none⟩ = false
  f2 : w.frozen? ⟨rb, 2, none⟩ = false
  lo : w0.heap.size ≤ rb
  bl : Below w0.heap.size w0 w
  C : Kd.C (Kd.int .u8) w0 A l.length l
  lc : l.length ≤ c
  lm : l.length ≤ 100000
  pl : p ≤ l.length
  by_ : ∀ x ∈ l, 0 ≤ x ∧ x ≤ 255
section
variable {w0 w w' : World} {rb : Nat} {A : Option Addr} {c : Nat} {l : List Int} {p : Nat} {e : Int}
theorem Inn.lt (h : Inn w0 w rb A c l p e) : rb < w.heap.size := World.block_lt_of_cell? w _ h.c0
theorem Inn.below (h : Inn w0 w rb A c l p e) (hb : Below w.heap.size w w') : Inn w0 w' rb A c l p e :=
  ⟨pw_cell_below hb h.c0, pw_cell_below hb h.c1, pw_cell_below hb h.c2, (hb.frozen (p := ⟨rb, 1, none⟩) h.lt).trans h.f1, (hb.frozen (p := ⟨rb, 2, none⟩) h.lt).trans h.f2, h.lo, below_step h.bl hb, h.C, h.lc, h.lm, h.pl, h.by_⟩
theorem Inn.set (h : Inn w0 w rb A c l p e) (q : Nat) (hq : q ≤ l.length) : Inn w0 (w.setCell ⟨rb, 1, none⟩ (.int .i64 q)) rb A c l q e :=
  ⟨(World.cell?_setCell_other _ _ _ _ (by simp)).trans h.c0, World.cell?_setCell_same _ _ _ h.c1, (World.cell?_setCell_other _ _ _ _ (by simp)).trans h.c2, by rw [World.frozen?_setCell]; exact h.f1, by rw [World.frozen?_setCell]; exact h.f2, h.lo, h.bl.setCell h.lo _, h.C, h.lc, h.lm, hq, h.by_⟩
theorem Inn.far (h : Inn w0 w rb A c l p e) {a : Addr} (ha : a.block ≠ rb) (h0 : w0.heap.size ≤ a.block) (v : Value) : Inn w0 (w.setCell a v) rb A c l p e :=
  ⟨(World.cell?_setCell_other _ _ _ _ (fun q => ha (by rw [q]))).trans h.c0, (World.cell?_setCell_other _ _ _ _ (fun q => ha (by rw [q]))).trans h.c1, (World.cell?_setCell_other _ _ _ _ (fun q => ha (by rw [q]))).trans h.c2, by rw [World.frozen?_setCell]; exact h.f1, by rw [World.frozen?_setCell]; exact h.f2, h.lo, h.bl.setCell h0 _, h.C, h.lc, h.lm, h.pl, h.by_⟩
end
theorem step_num {n c : Int} (hn : 0 ≤ n) (hn' : n < 1099511627776) (hc : 0 ≤ c ∧ c ≤ 255) : wrap64 (wrap64 (256 * n) + wrap64 c) = 256 * n + c := by
  unfold wrap64; omega
end Go.Proofs.YtpihkmpcnkhnfaaDoor.Ri
namespace Go.Proofs.YtpihkmpcnkhnfaaDoor.Ri
open Go Go.RowKit Go.Proofs.YtpihkmpcnkhnfaaDoorW.PrintWords Go.Proofs.YtpihkmpcnkhnfaaDoorW.PrintLast Go.Proofs.YtpihkmpcnkhnfaaDoorW.PrintMore
open Go.Proofs.YtpihkmpcnkhnfaaDoor.Onl (Only)
open Go.Proofs.YtpihkmpcnkhnfaaDoor.Hr (numF numF_snoc numF_bd info5)
set_option linter.unusedVariables false
set_option linter.unusedSimpArgs false
theorem Inn.only {w0 w w' : World} {rb : Nat} {A : Option Addr} {c : Nat} {l : List Int} {p : Nat} {e : Int} (h : Inn w0 w rb A c l p e) {b : Nat} (ho : Only (fun k => k = b) w w') (hb : b ≠ rb) (h0 : w0.heap.size ≤ b) : Inn w0 w' rb A c l p e :=
  ⟨ho.cell (ad := ⟨rb, 0, none⟩) (fun e => hb e.symm) h.c0, ho.cell (ad := ⟨rb, 1, none⟩) (fun e => hb e.symm) h.c1, ho.cell (ad := ⟨rb, 2, none⟩) (fun e => hb e.symm) h.c2, (World.frozen?_of_block (ho.block rb h.lt (fun e => hb e.symm))).trans h.f1, (World.frozen?_of_block (ho.block rb h.lt (fun e => hb e.symm))).trans h.f2, h.lo, h.bl.trans (ho.below h.bl.size (fun k e => by subst e; exact h0)), h.C, h.lc, h.lm, h.pl, h.by_⟩
end Go.Proofs.YtpihkmpcnkhnfaaDoor.Ri
namespace Go.Proofs.YtpihkmpcnkhnfaaDoor.Ri
open Go Go.RowKit Go.Proofs.YtpihkmpcnkhnfaaDoorW.PrintWords Go.Proofs.YtpihkmpcnkhnfaaDoorW.PrintLast Go.Proofs.YtpihkmpcnkhnfaaDoorW.PrintMore
open Go.Proofs.YtpihkmpcnkhnfaaDoor.Onl (Only)
open Go.Proofs.YtpihkmpcnkhnfaaDoor.Hr (numF numF_snoc numF_bd info5)
set_option linter.unusedVariables false
set_option linter.unusedSimpArgs false
end Go.Proofs.YtpihkmpcnkhnfaaDoor.Ri
namespace Go.Proofs.YtpihkmpcnkhnfaaDoor.Ri
open Go Go.RowKit Go.Proofs.YtpihkmpcnkhnfaaDoorW.PrintWords Go.Proofs.YtpihkmpcnkhnfaaDoorW.PrintLast Go.Proofs.YtpihkmpcnkhnfaaDoorW.PrintMore
open Go.Proofs.YtpihkmpcnkhnfaaDoor.Hr (numF numF_snoc numF_bd rdN rdB rdV rdC hS11 hS13 hS14 hS15 hS17 hS21 hLong hShort hread)
set_option linter.unusedVariables false
set_option linter.unusedSimpArgs false
end Go.Proofs.YtpihkmpcnkhnfaaDoor.Ri
namespace Go.Proofs.YtpihkmpcnkhnfaaDoor.HsP
open Go Go.RowKit Go.Proofs.YtpihkmpcnkhnfaaDoorW.PrintWords
open Go.Proofs.YtpihkmpcnkhnfaaDoor.Hr (numF rdN rdB rdV rdC hS11 hS13 hS14 hS15 hS17 hS21 hLong hShort hread Flds)
set_option linter.unusedVariables false
set_option linter.unusedSimpArgs false
theorem rdN_at {l : List Int} {p n q : Nat} {v : Int} (h : rdN l p n = .ok (v, q)) : q = p + n ∧ q ≤ l.length := by
  unfold rdN at h
  by_cases hn : p + n ≤ l.length
  · rw [if_pos hn] at h; injection h with h; injection h with _ h; omega
  · rw [if_neg hn] at h; cases h
theorem rdB_at {l : List Int} {p n q : Nat} {x : List Int} (h : rdB l p n = .ok (x, q)) : q = p + n ∧ q ≤ l.length := by
  unfold rdB at h
  by_cases hn : p + n ≤ l.length
  · rw [if_pos hn] at h; injection h with h; injection h with _ h; omega
  · rw [if_neg hn] at h; cases h
theorem rdV_at {l : List Int} {p q : Nat} {v : Int} (h : rdV l p = .ok (v, q)) : p ≤ q := by
  unfold rdV at h
  split at h
  · injection h with h; injection h with _ h; omega
  · cases h
theorem rdC_at {r : Except Int (Int × Nat)} {l : List Int} {m : Int} {q : Nat} {x : List Int} (h : rdC r l m = .ok (x, q)) : ∃ n q1, r = .ok (n, q1) ∧ q1 ≤ q := by
  unfold rdC at h
  rcases r with e | ⟨n, q1⟩
  · cases h
  · change (if n ≤ m then rdB l q1 n.toNat else .error 4) = _ at h
    by_cases hn : n ≤ m
    · rw [if_pos hn] at h; exact ⟨n, q1, rfl, by have := (rdB_at h).1; omega⟩
    · rw [if_neg hn] at h; cases h
theorem s17_at {l : List Int} {kd ver wd : Int} {tO fr tk : List Int} {p q : Nat} {fl : Flds} {fin : Int} (h : hS17 l kd ver tO fr tk wd p = .ok (fl, q, fin)) : p ≤ q ∧ (wd ≤ 0 ∨ (q : Int) ≤ fin) ∧ fin ≤ l.length := by
  unfold hS17 at h
  rcases hN : rdV l p with e | ⟨n, q1⟩
  · rw [hN] at h; cases h
  · rw [hN] at h
    have h1 := rdV_at hN
    change (if wd ≤ n then (if n ≤ (l.length : Int) - q1 then hS21 l kd ver tO fr tk wd n q1 else .error 2) else .error 3) = _ at h
    split at h
    · split at h
      · unfold hS21 at h
        rcases hM : rdN l q1 wd.toNat with e | ⟨nm, q2⟩
        · rw [hM] at h; cases h
        · rw [hM] at h
          have h2 := rdN_at hM
          injection h with h
          injection h with _ h
          injection h with h3 h4
          omega
      · cases h
    · cases h
theorem hread_fin {l : List Int} (hB : ∀ x ∈ l, 0 ≤ x ∧ x ≤ 255) {fl : Flds} {p : Nat} {fin : Int} (h : hread l = .ok (fl, p, fin)) : 1 ≤ p ∧ (p : Int) ≤ fin ∧ fin ≤ l.length := by
  unfold hread at h
  rcases hN : rdN l 0 1 with e | ⟨f, p1⟩
  · rw [hN] at h; cases h
  rw [hN] at h
  have a1 := rdN_at hN
  have f0 := Hr.rdN_nn hB hN
  change (if f < 192 then hShort l f p1 else hLong l f p1) = _ at h
  split at h
  · unfold hShort at h
    split at h
    · rcases hb : rdB l p1 8 with e | ⟨tO, p2⟩
      · rw [hb] at h; cases h
      · rw [hb] at h
        have a2 := rdB_at hb
        change (match rdN l p2 (f % 4 + 1).toNat with | .error e => _ | .ok (nm, p2) => _) = _ at h
        rcases hM : rdN l p2 (f % 4 + 1).toNat with e | ⟨nm, q2⟩
        · rw [hM] at h; cases h
        · rw [hM] at h
          have a3 := rdN_at hM
          injection h with h
          injection h with _ h
          injection h with h3 h4
          omega
    · cases h
  · unfold hLong at h
    split at h
    · unfold hS11 at h
      rcases hb : rdN l p1 4 with e | ⟨ver, p2⟩
      · rw [hb] at h; cases h
      · rw [hb] at h
        have a2 := rdN_at hb
        change (if 0 < ver then hS13 l (f / 16 % 4) ver (f % 4 + 1) p2 else .error 3) = _ at h
        split at h
        · unfold hS13 at h
          rcases h3 : rdC (rdN l p2 1) l ((20 : Nat) : Int) with e | ⟨tO, p3⟩
          · rw [h3] at h; cases h
          · rw [h3] at h
            obtain ⟨n3, q3, g3, a3⟩ := rdC_at h3
            have b3 := rdN_at g3
            change hS14 l (f / 16 % 4) ver tO (f % 4 + 1) p3 = _ at h
            unfold hS14 at h
            rcases h4 : rdC (rdN l p3 1) l ((20 : Nat) : Int) with e | ⟨fr, p4⟩
            · rw [h4] at h; cases h
            · rw [h4] at h
              obtain ⟨n4, q4, g4, a4⟩ := rdC_at h4
              have b4 := rdN_at g4
              change hS15 l (f / 16 % 4) ver tO fr (f % 4 + 1) p4 = _ at h
              unfold hS15 at h
              split at h
              · rcases h5 : rdC (rdV l p4) l ((64 : Nat) : Int) with e | ⟨tk, p5⟩
                · rw [h5] at h; cases h
                · rw [h5] at h
                  obtain ⟨n5, q5, g5, a5⟩ := rdC_at h5
                  have b5 := rdV_at g5
                  have := s17_at (show hS17 l (f / 16 % 4) ver tO fr tk (f % 4 + 1) p5 = _ from h)
                  omega
              · have := s17_at h
                omega
        · cases h
    · cases h
theorem rdN_err {l : List Int} {p n : Nat} {e : Int} (h : rdN l p n = .error e) : e ≠ 0 := by
  unfold rdN at h
  split at h
  · cases h
  · injection h with h; omega
theorem rdB_err {l : List Int} {p n : Nat} {e : Int} (h : rdB l p n = .error e) : e ≠ 0 := by
  unfold rdB at h
  split at h
  · cases h
  · injection h with h; omega
theorem rdV_err {l : List Int} {p : Nat} {e : Int} (h : rdV l p = .error e) : e ≠ 0 := by
  unfold rdV at h
  split at h
  · cases h
  · rename_i hn
    injection h with h
    rw [← h]; exact hn
theorem rdC_err {r : Except Int (Int × Nat)} {l : List Int} {m e : Int} (hr : ∀ e, r = .error e → e ≠ 0) (h : rdC r l m = .error e) : e ≠ 0 := by
  unfold rdC at h
  rcases r with e1 | ⟨n, q1⟩
  · injection h with h; rw [← h]; exact hr e1 rfl
  · change (if n ≤ m then rdB l q1 n.toNat else .error 4) = _ at h
    split at h
    · exact rdB_err h
    · injection h with h; omega
theorem s17_err {l : List Int} {kd ver wd : Int} {tO fr tk : List Int} {p : Nat} {e : Int} (h : hS17 l kd ver tO fr tk wd p = .error e) : e ≠ 0 := by
  unfold hS17 at h
  rcases hN : rdV l p with e1 | ⟨n, q1⟩
  · rw [hN] at h; injection h with h; rw [← h]; exact rdV_err hN
  · rw [hN] at h
    change (if wd ≤ n then (if n ≤ (l.length : Int) - q1 then hS21 l kd ver tO fr tk wd n q1 else .error 2) else .error 3) = _ at h
    split at h
    · split at h
      · unfold hS21 at h
        rcases hM : rdN l q1 wd.toNat with e1 | ⟨nm, q2⟩
        · rw [hM] at h; injection h with h; rw [← h]; exact rdN_err hM
        · rw [hM] at h; cases h
      · injection h with h; omega
    · injection h with h; omega
theorem hread_err {l : List Int} {e : Int} (h : hread l = .error e) : e ≠ 0 := by
  unfold hread at h
  rcases hN : rdN l 0 1 with e1 | ⟨f, p1⟩
  · rw [hN] at h; injection h with h; rw [← h]; exact rdN_err hN
  rw [hN] at h
  change (if f < 192 then hShort l f p1 else hLong l f p1) = _ at h
  split at h
  · unfold hShort at h
    split at h
    · rcases hb : rdB l p1 8 with e1 | ⟨tO, p2⟩
      · rw [hb] at h; injection h with h; rw [← h]; exact rdB_err hb
      · rw [hb] at h
        change (match rdN l p2 (f % 4 + 1).toNat with | .error e => _ | .ok (nm, p2) => _) = _ at h
        rcases hM : rdN l p2 (f % 4 + 1).toNat with e1 | ⟨nm, q2⟩
        · rw [hM] at h; injection h with h; rw [← h]; exact rdN_err hM
        · rw [hM] at h; cases h
    · injection h with h; omega
  · unfold hLong at h
    split at h
    · unfold hS11 at h
      rcases hb : rdN l p1 4 with e1 | ⟨ver, p2⟩
      · rw [hb] at h; injection h with h; rw [← h]; exact rdN_err hb
      · rw [hb] at h
        change (if 0 < ver then hS13 l (f / 16 % 4) ver (f % 4 + 1) p2 else .error 3) = _ at h
        split at h
        · unfold hS13 at h
          rcases h3 : rdC (rdN l p2 1) l ((20 : Nat) : Int) with e1 | ⟨tO, p3⟩
          · rw [h3] at h; injection h with h; rw [← h]; exact rdC_err (fun _ => rdN_err) h3
          · rw [h3] at h
            change hS14 l (f / 16 % 4) ver tO (f % 4 + 1) p3 = _ at h
            unfold hS14 at h
            rcases h4 : rdC (rdN l p3 1) l ((20 : Nat) : Int) with e1 | ⟨fr, p4⟩
            · rw [h4] at h; injection h with h; rw [← h]; exact rdC_err (fun _ => rdN_err) h4
            · rw [h4] at h
              change hS15 l (f / 16 % 4) ver tO fr (f % 4 + 1) p4 = _ at h
              unfold hS15 at h
              split at h
              · rcases h5 : rdC (rdV l p4) l ((64 : Nat) : Int) with e1 | ⟨tk, p5⟩
                · rw [h5] at h; injection h with h; rw [← h]; exact rdC_err (fun _ => rdV_err) h5
                · rw [h5] at h
                  exact s17_err (show hS17 l (f / 16 % 4) ver tO fr tk (f % 4 + 1) p5 = _ from h)
              · exact s17_err h
        · injection h with h; omega
    · injection h with h; omega
def pks : Nat → List Int → List (Flds × List Int × List Int) × Int
  | 0, _ => ([], 0)
  | f + 1, b => if b = [] then ([], 0) else match hread b with
    | .error e => ([], e)
    | .ok (fl, p, fin) => ((fl, b.take p, (b.take fin.toNat).drop p) :: (pks f (b.drop fin.toNat)).1, (pks f (b.drop fin.toNat)).2)
end Go.Proofs.YtpihkmpcnkhnfaaDoor.HsP
namespace Go.Proofs.YtpihkmpcnkhnfaaDoor.QHe
open Go.RowKit Go.Proofs.YtpihkmpcnkhnfaaDoorW.PrintWords Go.Proofs.YtpihkmpcnkhnfaaDoorW.PrintLast Go.Proofs.YtpihkmpcnkhnfaaDoorW.PrintMore
attribute [local go_sem] max2_int min2_int max_two min_two max_three min_three max_four min_four
set_option linter.unusedVariables false
set_option linter.unusedSimpArgs false
def errW : Option Int → Value
 | none => .nilIface
 | some c => .iface 0 (.int .i64 c)
theorem errW_none : errW none = .nilIface := rfl
theorem errW_some (c : Int) : errW (some c) = .iface 0 (.int .i64 c) := rfl
theorem info5 : (Tryd.prog.info? 5).map (fun i => (i.zero, i.size, i.bytes)) = some (some (.int .u8 0), 1, 1) := by kernel_rfl
end Go.Proofs.YtpihkmpcnkhnfaaDoor.QHe
