/- The document's Next, walked. Written by mk-rst3.py (a program of this session). -/
import Derived.Test.YtbcleckapamicaaRst2
namespace Go.Proofs.Ytbcleckapamicaa.Rst
open Go Go.RowKit Go.Proofs.YtbcleckapamicaaW.PrintWords Go.Proofs.YtbcleckapamicaaW.PrintLast Go.Proofs.YtbcleckapamicaaW.PrintMore
open Go.Proofs.Ytbcleckapamicaa.Stm (Bytes bytes_rd Only info5 wf64 front front_le front_bytes mlen mlen_range nextR cut cut_zero)
set_option linter.unusedVariables false
set_option linter.unusedSimpArgs false

def lowcut (t : Int) (G : Stm.Fn) : Stm.Fn := fun k => if t ≤ k then G k else none
theorem take_snoc (l : List Int) (j : Nat) (hj : j < l.length) : l.take (j + 1) = l.take j ++ [rd l j] := by
  rw [List.take_succ_eq_append_getElem hj]
  simp [rd, List.getD_eq_getElem?_getD, List.getElem?_eq_getElem hj]
theorem bytes_take {l : List Int} (h : Bytes l) (j : Nat) : Bytes (l.take j) := fun x hx => h x (List.mem_of_mem_take hx)
theorem low_keep {ks bs k2 b2 : List Int} (hl : ks.length = bs.length) (hB : Bytes bs) (hl2 : k2.length = b2.length) (hB2 : Bytes b2) {T : Int} {j : Nat} (hj : j < ks.length) (h : FR k2 b2 = lowcut T (FR (ks.take j) (bs.take j))) (hx : T ≤ rd ks j) :
    FR (k2 ++ [rd ks j]) (b2 ++ [rd bs j]) = lowcut T (FR (ks.take (j + 1)) (bs.take (j + 1))) := by
  have hy := bytes_rd hB j (by omega)
  funext k
  rw [FR_snoc k2 b2 hl2 hB2 _ _ hy.1, h, take_snoc ks j hj, take_snoc bs j (by omega)]
  unfold lowcut
  rw [FR_snoc (ks.take j) (bs.take j) (by simp [hl]) (bytes_take hB j) _ _ hy.1]
  by_cases c : T ≤ k
  · simp only [if_pos c]
  · simp only [if_neg c]
    rw [if_neg (by omega)]
theorem low_drop {ks bs k2 b2 : List Int} (hl : ks.length = bs.length) (hB : Bytes bs) {T : Int} {j : Nat} (hj : j < ks.length) (h : FR k2 b2 = lowcut T (FR (ks.take j) (bs.take j))) (hx : ¬ T ≤ rd ks j) :
    FR k2 b2 = lowcut T (FR (ks.take (j + 1)) (bs.take (j + 1))) := by
  have hy := bytes_rd hB j (by omega)
  rw [h, take_snoc ks j hj, take_snoc bs j (by omega)]
  funext k
  unfold lowcut
  by_cases c : T ≤ k
  · simp only [if_pos c]
    rw [FR_snoc (ks.take j) (bs.take j) (by simp [hl]) (bytes_take hB j) _ _ hy.1]
    cases FR (ks.take j) (bs.take j) k with
    | some c => rfl
    | none => simp only []; rw [if_neg (by omega)]
  · simp only [if_neg c]
theorem low_all {ks bs : List Int} (hl : ks.length = bs.length) {t T : Int} {N : Nat} (hT : T = t + N) (hlow : ∀ k, k < t → FR ks bs k = none) : lowcut T (FR (ks.take ks.length) (bs.take ks.length)) = cut (FR ks bs) t N := by
  rw [List.take_length, hl, List.take_length]
  funext k
  unfold lowcut cut
  by_cases c : T ≤ k
  · rw [if_pos c, if_neg (by omega)]
  · rw [if_neg c]
    by_cases c2 : t ≤ k ∧ k < t + N
    · rw [if_pos c2]
    · rw [if_neg c2]
      exact (hlow k (by omega)).symm

def RNextPost (w w' : World) (base rb : Nat) (t : Int) (ks bs : List Int) (va vb : Value) (e : Ending) : Prop :=
  ∃ v, e = .returned (.tuple #[v, .int .i64 (nextR (FR ks bs) t).2]) ∧ (Kd.int .u8).R 5 w' w.heap.size (fun _ => True) v (nextR (FR ks bs) t).1 ∧ RAfter w w' base rb (t + ((nextR (FR ks bs) t).1.length : Nat)) va vb (cut (FR ks bs) t (nextR (FR ks bs) t).1.length) ks.length
theorem RNextPost.bad {w w' : World} {base rb : Nat} {t : Int} {ks bs : List Int} {va vb : Value} (hS : Sr w base rb t ks bs va vb) (hb : Below w.heap.size w w') (e : Int) (he : nextR (FR ks bs) t = ([], e)) : RNextPost w w' base rb t ks bs va vb (.returned (.tuple #[.slice none 0 0, .int .i64 e])) := by
  unfold RNextPost
  rw [he]
  exact ⟨_, rfl, Kd.R_nil _ _ _ _ _, ks, bs, va, vb, by simpa using hS.below hb, by simp [cut_zero], Nat.le_refl _, fun _ h => Or.inl h, fun _ h => Or.inl h, Only.of_below hb⟩

set_option maxHeartbeats 2000000 in
set_option maxRecDepth 100000 in
theorem rnext_short {w : World} {base rb : Nat} {t : Int} {ks bs : List Int} {va vb : Value} (hS : Sr w base rb t ks bs va vb) (hk : ks.length ≤ 1000000) (ht : 0 ≤ t) (ht' : t ≤ 549755813888) (h4 : (front (FR ks bs) t 4).length < 4) :
    Calls Try.prog 23 #[.pointer (some ⟨rb, 0, none⟩)] w fun e w' => RNextPost w w' base rb t ks bs va vb e := by
  have he : nextR (FR ks bs) t = ([], 2) := by unfold nextR; rw [if_pos h4]
  have HS := Aside0.mk hS
  have HE := Aside0.mk he
  have H1 : Calls Try.prog 50 #[.pointer (some ⟨rb, 0, none⟩), .int .i64 4] w _ := front_calls hS 4 (by omega) hk ht ht'
  have d0 : decide (((front (FR ks bs) t 4).length : Int) < 4) = true := decide_eq_true (by omega)
  have d1 : decide ((front (FR ks bs) t 4).length < 4) = true := decide_eq_true (by omega)
  clear hS hk ht ht' he h4
  generalize front (FR ks bs) t 4 = fr at *
  go_enter Try.func23, Try.ntmps23
  go_wp2_with (go_at_call 50; refine H1.mono ?_; rintro e1 w1 ⟨v1, rfl, ho1, hb1⟩; obtain ⟨A1, c1, e1⟩ := Kd.R_slice ho1; subst e1; have B1 := Aside0.mk hb1; clear hb1 ho1)
  go_ret2
  exact RNextPost.bad HS.out B1.out 2 HE.out
theorem raw_of (fr : List Int) (hB : Bytes fr) (h4 : 4 ≤ fr.length) : ∃ R : Nat, mlen fr = 4 + R ∧ wrap64 (65536 * rd fr 1) = 65536 * rd fr 1 ∧ wrap64 (256 * rd fr 2) = 256 * rd fr 2 ∧ wrap64 (65536 * rd fr 1 + 256 * rd fr 2) = 65536 * rd fr 1 + 256 * rd fr 2 ∧ wrap64 (65536 * rd fr 1 + 256 * rd fr 2 + rd fr 3) = (R : Int) ∧ wrap64 (rd fr 1) = rd fr 1 ∧ wrap64 (rd fr 2) = rd fr 2 ∧ wrap64 (rd fr 3) = rd fr 3 ∧ R ≤ 16777215 := by
  have r1 := bytes_rd hB 1 (by omega)
  have r2 := bytes_rd hB 2 (by omega)
  have r3 := bytes_rd hB 3 (by omega)
  change 0 ≤ rd fr 1 ∧ rd fr 1 ≤ 255 at r1
  change 0 ≤ rd fr 2 ∧ rd fr 2 ≤ 255 at r2
  change 0 ≤ rd fr 3 ∧ rd fr 3 ≤ 255 at r3
  refine ⟨(65536 * rd fr 1 + 256 * rd fr 2 + rd fr 3).toNat, ?_, ?_, ?_, ?_, ?_, ?_, ?_, ?_, ?_⟩
  · show 4 + (65536 * rd fr 1 + 256 * rd fr 2 + rd fr 3) = _
    omega
  all_goals first | (unfold wrap64; omega) | omega
theorem cells_of {w : World} {A : Option Addr} {fr : List Int} (hC : Kd.C (Kd.int .u8) w A fr.length fr) (h4 : 4 ≤ fr.length) : ∃ ad : Addr, A = some ad ∧ w.cell? ⟨ad.block, ad.off + 1, none⟩ = some (.int .u8 (rd fr 1)) ∧ w.cell? ⟨ad.block, ad.off + 2, none⟩ = some (.int .u8 (rd fr 2)) ∧ w.cell? ⟨ad.block, ad.off + 3, none⟩ = some (.int .u8 (rd fr 3)) := by
  obtain ⟨ad, rfl, k1⟩ := Kd.at_int hC (1 : Int) (by omega) (by omega)
  obtain ⟨ad2, e2, k2⟩ := Kd.at_int hC (2 : Int) (by omega) (by omega)
  obtain ⟨ad3, e3, k3⟩ := Kd.at_int hC (3 : Int) (by omega) (by omega)
  obtain rfl := Option.some.inj e2
  obtain rfl := Option.some.inj e3
  exact ⟨ad, rfl, by simpa [Addr.add] using k1, by simpa [Addr.add] using k2, by simpa [Addr.add] using k3⟩
set_option maxHeartbeats 4000000 in
set_option maxRecDepth 100000 in
theorem rnext_long {w : World} {base rb : Nat} {t : Int} {ks bs : List Int} {va vb : Value} (hS : Sr w base rb t ks bs va vb) (hk : ks.length ≤ 1000000) (ht : 0 ≤ t) (ht' : t ≤ 274877906944) (h4 : ¬ (front (FR ks bs) t 4).length < 4) (h5 : mlen (front (FR ks bs) t 4) > 2004) :
    Calls Try.prog 23 #[.pointer (some ⟨rb, 0, none⟩)] w fun e w' => RNextPost w w' base rb t ks bs va vb e := by
  have he : nextR (FR ks bs) t = ([], 4) := by unfold nextR; rw [if_neg h4, if_pos h5]
  have HS := Aside0.mk hS
  have HE := Aside0.mk he
  have HFB := FR_FB ks bs hS.by_
  have HB := Aside0.mk (front_bytes HFB 4 t)
  have H1 : Calls Try.prog 50 #[.pointer (some ⟨rb, 0, none⟩), .int .i64 4] w _ := front_calls hS 4 (by omega) hk ht (by omega)
  have d0 : decide (((front (FR ks bs) t 4).length : Int) < 4) = false := decide_eq_false (by omega)
  have d1 : decide ((front (FR ks bs) t 4).length < 4) = false := decide_eq_false (by omega)
  have H4 := Aside0.mk (show 4 ≤ (front (FR ks bs) t 4).length by omega)
  have HT := Aside0.mk ht
  have HT' := Aside0.mk ht'
  have HK := Aside0.mk hk
  generalize hfr : front (FR ks bs) t 4 = fr at *
  obtain ⟨R, hR, m1, m2, m3, m4, x1, x2, x3, hRb⟩ := raw_of fr HB.out H4.out
  have g1 : (1 : Int) < (fr.length : Int) := by have := H4.out; omega
  have g2 : (2 : Int) < (fr.length : Int) := by have := H4.out; omega
  have g3 : (3 : Int) < (fr.length : Int) := by have := H4.out; omega
  have n1 : 1 < fr.length := by have := H4.out; omega
  have n2 : 2 < fr.length := by have := H4.out; omega
  have n3 : 3 < fr.length := by have := H4.out; omega
  have d2 : decide (2000 < (R : Int)) = true := decide_eq_true (by omega)
  have d2' : decide (2000 < R) = true := decide_eq_true (by omega)
  clear h5 hR hRb
  clear hS ht ht' hk he h4 HFB hfr
  go_enter Try.func23, Try.ntmps23
  go_wp2_with (go_at_call 50; refine H1.mono ?_; clear H1; rintro e1 w1 ⟨v1, rfl, ho1, hb1⟩; obtain ⟨A1, c1, rfl, l1, kk1⟩ := Kd.R_reads ho1; have B1 := Aside0.mk hb1; have K1 := Aside0.mk kk1; clear hb1 ho1 kk1 l1)
  obtain ⟨ad, rfl, k1, k2, k3⟩ := cells_of K1.out H4.out
  generalize rd fr 1 = b1 at *
  generalize rd fr 2 = b2 at *
  generalize rd fr 3 = b3 at *
  refine start_ (n := 17) (S := fun w' => w'.cell? ⟨ad.block, ad.off + 1, none⟩ = some (.int .u8 b1) ∧ w'.cell? ⟨ad.block, ad.off + 2, none⟩ = some (.int .u8 b2) ∧ w'.cell? ⟨ad.block, ad.off + 3, none⟩ = some (.int .u8 b3)) (ds := []) #[false, false, false, false, false, false, false, false, false, false, false, false, false, false, false, false, false] (by kernel_rfl) rfl rfl ⟨k1, k2, k3⟩ (fun hHeld => ?_)
  refine pure_ (i := 0) (N := some 15) (v := ?_) (a' := ?_) #[true, false, false, false, false, false, false, false, false, false, false, false, false, false, false, false, false] rfl rfl (by kernel_rfl) (fun _ _ _ h => h) (Or.inl ⟨by rfl, ?_⟩) ?_ ?_
  rotate_left
  · intro w'
    go_simp
    with_reducible rfl
  rotate_left
  · simp only [Act.put, List.setIfInBounds_toArray, List.set_cons_zero, List.set_cons_succ, i64_w, i32_w]
    rfl
  refine pure_ (i := 1) (N := some 16) (v := ?_) (a' := ?_) #[true, true, false, false, false, false, false, false, false, false, false, false, false, false, false, false, false] rfl rfl (by kernel_rfl) (fun _ _ _ h => h) (Or.inl ⟨by rfl, ?_⟩) ?_ ?_
  rotate_left
  · intro w'
    go_simp
    with_reducible rfl
  rotate_left
  · simp only [Act.put, List.setIfInBounds_toArray, List.set_cons_zero, List.set_cons_succ, i64_w, i32_w]
    rfl
  refine take_ (i := 2) (N := some 17) (v := ?_) (a' := ?_) #[true, true, true, false, false, false, false, false, false, false, false, false, false, false, false, false, false] rfl rfl (by kernel_rfl) (fun _ _ _ h => h) (Or.inl ⟨by rfl, ?_⟩) hHeld ?_ ?_
  rotate_left
  · rintro w' ⟨s0, s1, s2⟩
    go_simp
    with_reducible rfl
  rotate_left
  · simp only [Act.put, List.setIfInBounds_toArray, List.set_cons_zero, List.set_cons_succ, i64_w, i32_w]
    rfl
  refine pure_ (i := 3) (N := some 18) (v := ?_) (a' := ?_) #[true, true, true, true, false, false, false, false, false, false, false, false, false, false, false, false, false] rfl rfl (by kernel_rfl) (fun _ _ _ h => h) (Or.inl ⟨by rfl, ?_⟩) ?_ ?_
  rotate_left
  · intro w'
    go_simp
    with_reducible rfl
  rotate_left
  · simp only [Act.put, List.setIfInBounds_toArray, List.set_cons_zero, List.set_cons_succ, i64_w, i32_w]
    rfl
  refine pure_ (i := 4) (N := some 19) (v := ?_) (a' := ?_) #[true, true, true, true, true, false, false, false, false, false, false, false, false, false, false, false, false] rfl rfl (by kernel_rfl) (fun _ _ _ h => h) (Or.inl ⟨by rfl, ?_⟩) ?_ ?_
  rotate_left
  · intro w'
    go_simp
    with_reducible rfl
  rotate_left
  · simp only [Act.put, List.setIfInBounds_toArray, List.set_cons_zero, List.set_cons_succ, i64_w, i32_w]
    rfl
  refine pure_ (i := 5) (N := some 20) (v := ?_) (a' := ?_) #[true, true, true, true, true, true, false, false, false, false, false, false, false, false, false, false, false] rfl rfl (by kernel_rfl) (fun _ _ _ h => h) (Or.inl ⟨by rfl, ?_⟩) ?_ ?_
  rotate_left
  · intro w'
    go_simp
    with_reducible rfl
  rotate_left
  · simp only [Act.put, List.setIfInBounds_toArray, List.set_cons_zero, List.set_cons_succ, i64_w, i32_w]
    rfl
  refine pure_ (i := 6) (N := some 21) (v := ?_) (a' := ?_) #[true, true, true, true, true, true, true, false, false, false, false, false, false, false, false, false, false] rfl rfl (by kernel_rfl) (fun _ _ _ h => h) (Or.inl ⟨by rfl, ?_⟩) ?_ ?_
  rotate_left
  · intro w'
    go_simp
    with_reducible rfl
  rotate_left
  · simp only [Act.put, List.setIfInBounds_toArray, List.set_cons_zero, List.set_cons_succ, i64_w, i32_w]
    rfl
  refine take_ (i := 7) (N := some 22) (v := ?_) (a' := ?_) #[true, true, true, true, true, true, true, true, false, false, false, false, false, false, false, false, false] rfl rfl (by kernel_rfl) (fun _ _ _ h => h) (Or.inl ⟨by rfl, ?_⟩) hHeld ?_ ?_
  rotate_left
  · rintro w' ⟨s0, s1, s2⟩
    go_simp
    with_reducible rfl
  rotate_left
  · simp only [Act.put, List.setIfInBounds_toArray, List.set_cons_zero, List.set_cons_succ, i64_w, i32_w]
    rfl
  refine pure_ (i := 8) (N := some 23) (v := ?_) (a' := ?_) #[true, true, true, true, true, true, true, true, true, false, false, false, false, false, false, false, false] rfl rfl (by kernel_rfl) (fun _ _ _ h => h) (Or.inl ⟨by rfl, ?_⟩) ?_ ?_
  rotate_left
  · intro w'
    go_simp
    with_reducible rfl
  rotate_left
  · simp only [Act.put, List.setIfInBounds_toArray, List.set_cons_zero, List.set_cons_succ, i64_w, i32_w]
    rfl
  refine pure_ (i := 9) (N := some 24) (v := ?_) (a' := ?_) #[true, true, true, true, true, true, true, true, true, true, false, false, false, false, false, false, false] rfl rfl (by kernel_rfl) (fun _ _ _ h => h) (Or.inl ⟨by rfl, ?_⟩) ?_ ?_
  rotate_left
  · intro w'
    go_simp
    with_reducible rfl
  rotate_left
  · simp only [Act.put, List.setIfInBounds_toArray, List.set_cons_zero, List.set_cons_succ, i64_w, i32_w]
    rfl
  refine pure_ (i := 10) (N := some 25) (v := ?_) (a' := ?_) #[true, true, true, true, true, true, true, true, true, true, true, false, false, false, false, false, false] rfl rfl (by kernel_rfl) (fun _ _ _ h => h) (Or.inl ⟨by rfl, ?_⟩) ?_ ?_
  rotate_left
  · intro w'
    go_simp
    with_reducible rfl
  rotate_left
  · simp only [Act.put, List.setIfInBounds_toArray, List.set_cons_zero, List.set_cons_succ, i64_w, i32_w]
    rfl
  refine pure_ (i := 11) (N := some 26) (v := ?_) (a' := ?_) #[true, true, true, true, true, true, true, true, true, true, true, true, false, false, false, false, false] rfl rfl (by kernel_rfl) (fun _ _ _ h => h) (Or.inl ⟨by rfl, ?_⟩) ?_ ?_
  rotate_left
  · intro w'
    go_simp
    with_reducible rfl
  rotate_left
  · simp only [Act.put, List.setIfInBounds_toArray, List.set_cons_zero, List.set_cons_succ, i64_w, i32_w]
    rfl
  refine pure_ (i := 12) (N := some 27) (v := ?_) (a' := ?_) #[true, true, true, true, true, true, true, true, true, true, true, true, true, false, false, false, false] rfl rfl (by kernel_rfl) (fun _ _ _ h => h) (Or.inl ⟨by rfl, ?_⟩) ?_ ?_
  rotate_left
  · intro w'
    go_simp
    with_reducible rfl
  rotate_left
  · simp only [Act.put, List.setIfInBounds_toArray, List.set_cons_zero, List.set_cons_succ, i64_w, i32_w]
    rfl
  refine take_ (i := 13) (N := some 28) (v := ?_) (a' := ?_) #[true, true, true, true, true, true, true, true, true, true, true, true, true, true, false, false, false] rfl rfl (by kernel_rfl) (fun _ _ _ h => h) (Or.inl ⟨by rfl, ?_⟩) hHeld ?_ ?_
  rotate_left
  · rintro w' ⟨s0, s1, s2⟩
    go_simp
    with_reducible rfl
  rotate_left
  · simp only [Act.put, List.setIfInBounds_toArray, List.set_cons_zero, List.set_cons_succ, i64_w, i32_w]
    rfl
  refine pure_ (i := 14) (N := some 29) (v := ?_) (a' := ?_) #[true, true, true, true, true, true, true, true, true, true, true, true, true, true, true, false, false] rfl rfl (by kernel_rfl) (fun _ _ _ h => h) (Or.inl ⟨by rfl, ?_⟩) ?_ ?_
  rotate_left
  · intro w'
    go_simp
    with_reducible rfl
  rotate_left
  · simp only [Act.put, List.setIfInBounds_toArray, List.set_cons_zero, List.set_cons_succ, i64_w, i32_w]
    rfl
  refine pure_ (i := 15) (N := some 30) (v := ?_) (a' := ?_) #[true, true, true, true, true, true, true, true, true, true, true, true, true, true, true, true, false] rfl rfl (by kernel_rfl) (fun _ _ _ h => h) (Or.inl ⟨by rfl, ?_⟩) ?_ ?_
  rotate_left
  · intro w'
    go_simp
    with_reducible rfl
  rotate_left
  · simp only [Act.put, List.setIfInBounds_toArray, List.set_cons_zero, List.set_cons_succ, i64_w, i32_w]
    rfl
  refine pure_ (i := 16) (N := some 5) (v := ?_) (a' := ?_) #[true, true, true, true, true, true, true, true, true, true, true, true, true, true, true, true, true] rfl rfl (by kernel_rfl) (fun _ _ _ h => h) (Or.inl ⟨by rfl, ?_⟩) ?_ ?_
  rotate_left
  · intro w'
    go_simp
    with_reducible rfl
  rotate_left
  · simp only [Act.put, List.setIfInBounds_toArray, List.set_cons_zero, List.set_cons_succ, i64_w, i32_w]
    rfl
  refine done_ (by kernel_rfl) ?_
  go_wp2
  go_ret2
  exact RNextPost.bad HS.out B1.out.drew 4 HE.out
set_option maxHeartbeats 4000000 in
set_option maxRecDepth 100000 in
theorem rnext_cut {w : World} {base rb : Nat} {t : Int} {ks bs : List Int} {va vb : Value} (hS : Sr w base rb t ks bs va vb) (hk : ks.length ≤ 1000000) (ht : 0 ≤ t) (ht' : t ≤ 274877906944) (h4 : ¬ (front (FR ks bs) t 4).length < 4) (h5 : ¬ mlen (front (FR ks bs) t 4) > 2004)
    (h6 : (front (FR ks bs) t (mlen (front (FR ks bs) t 4)).toNat).length < (mlen (front (FR ks bs) t 4)).toNat) :
    Calls Try.prog 23 #[.pointer (some ⟨rb, 0, none⟩)] w fun e w' => RNextPost w w' base rb t ks bs va vb e := by
  have he : nextR (FR ks bs) t = ([], 2) := by unfold nextR; rw [if_neg h4, if_neg h5, if_pos h6]
  have HS := Aside0.mk hS
  have HE := Aside0.mk he
  have HFB := FR_FB ks bs hS.by_
  have HB := Aside0.mk (front_bytes HFB 4 t)
  have H1 : Calls Try.prog 50 #[.pointer (some ⟨rb, 0, none⟩), .int .i64 4] w _ := front_calls hS 4 (by omega) hk ht (by omega)
  have d0 : decide (((front (FR ks bs) t 4).length : Int) < 4) = false := decide_eq_false (by omega)
  have d1 : decide ((front (FR ks bs) t 4).length < 4) = false := decide_eq_false (by omega)
  have H4 := Aside0.mk (show 4 ≤ (front (FR ks bs) t 4).length by omega)
  have HT := Aside0.mk ht
  have HT' := Aside0.mk ht'
  have HK := Aside0.mk hk
  generalize hfr : front (FR ks bs) t 4 = fr at *
  obtain ⟨R, hR, m1, m2, m3, m4, x1, x2, x3, hRb⟩ := raw_of fr HB.out H4.out
  have g1 : (1 : Int) < (fr.length : Int) := by have := H4.out; omega
  have g2 : (2 : Int) < (fr.length : Int) := by have := H4.out; omega
  have g3 : (3 : Int) < (fr.length : Int) := by have := H4.out; omega
  have n1 : 1 < fr.length := by have := H4.out; omega
  have n2 : 2 < fr.length := by have := H4.out; omega
  have n3 : 3 < fr.length := by have := H4.out; omega
  obtain ⟨N, hN⟩ : ∃ N : Nat, N = R + 4 := ⟨_, rfl⟩
  rw [hR, show ((4 : Int) + (R : Int)).toNat = N by omega] at h6
  have d2 : decide (2000 < (R : Int)) = false := decide_eq_false (by omega)
  have d2' : decide (2000 < R) = false := decide_eq_false (by omega)
  have RB := Aside0.mk (show N ≤ 1000000 by omega)
  have NB := Aside0.mk (show N ≤ 2004 by omega)
  have W4 := Aside0.mk (show wrap64 ((R : Int) + 4) = (N : Int) by unfold wrap64; omega)
  have d3 : decide (((front (FR ks bs) t N).length : Int) < (N : Int)) = true := decide_eq_true (Int.ofNat_lt.mpr h6)
  have d3' : decide ((front (FR ks bs) t N).length < N) = true := decide_eq_true h6
  clear h5 h6 hR hRb hN
  clear hS ht ht' hk he h4 HFB hfr
  go_enter Try.func23, Try.ntmps23
  go_wp2_with (go_at_call 50; refine H1.mono ?_; clear H1; rintro e1 w1 ⟨v1, rfl, ho1, hb1⟩; obtain ⟨A1, c1, rfl, l1, kk1⟩ := Kd.R_reads ho1; have B1 := Aside0.mk hb1; have K1 := Aside0.mk kk1; clear hb1 ho1 kk1 l1)
  obtain ⟨ad, rfl, k1, k2, k3⟩ := cells_of K1.out H4.out
  generalize rd fr 1 = b1 at *
  generalize rd fr 2 = b2 at *
  generalize rd fr 3 = b3 at *
  refine start_ (n := 17) (S := fun w' => w'.cell? ⟨ad.block, ad.off + 1, none⟩ = some (.int .u8 b1) ∧ w'.cell? ⟨ad.block, ad.off + 2, none⟩ = some (.int .u8 b2) ∧ w'.cell? ⟨ad.block, ad.off + 3, none⟩ = some (.int .u8 b3)) (ds := []) #[false, false, false, false, false, false, false, false, false, false, false, false, false, false, false, false, false] (by kernel_rfl) rfl rfl ⟨k1, k2, k3⟩ (fun hHeld => ?_)
  refine pure_ (i := 0) (N := some 15) (v := ?_) (a' := ?_) #[true, false, false, false, false, false, false, false, false, false, false, false, false, false, false, false, false] rfl rfl (by kernel_rfl) (fun _ _ _ h => h) (Or.inl ⟨by rfl, ?_⟩) ?_ ?_
  rotate_left
  · intro w'
    go_simp
    with_reducible rfl
  rotate_left
  · simp only [Act.put, List.setIfInBounds_toArray, List.set_cons_zero, List.set_cons_succ, i64_w, i32_w]
    rfl
  refine pure_ (i := 1) (N := some 16) (v := ?_) (a' := ?_) #[true, true, false, false, false, false, false, false, false, false, false, false, false, false, false, false, false] rfl rfl (by kernel_rfl) (fun _ _ _ h => h) (Or.inl ⟨by rfl, ?_⟩) ?_ ?_
  rotate_left
  · intro w'
    go_simp
    with_reducible rfl
  rotate_left
  · simp only [Act.put, List.setIfInBounds_toArray, List.set_cons_zero, List.set_cons_succ, i64_w, i32_w]
    rfl
  refine take_ (i := 2) (N := some 17) (v := ?_) (a' := ?_) #[true, true, true, false, false, false, false, false, false, false, false, false, false, false, false, false, false] rfl rfl (by kernel_rfl) (fun _ _ _ h => h) (Or.inl ⟨by rfl, ?_⟩) hHeld ?_ ?_
  rotate_left
  · rintro w' ⟨s0, s1, s2⟩
    go_simp
    with_reducible rfl
  rotate_left
  · simp only [Act.put, List.setIfInBounds_toArray, List.set_cons_zero, List.set_cons_succ, i64_w, i32_w]
    rfl
  refine pure_ (i := 3) (N := some 18) (v := ?_) (a' := ?_) #[true, true, true, true, false, false, false, false, false, false, false, false, false, false, false, false, false] rfl rfl (by kernel_rfl) (fun _ _ _ h => h) (Or.inl ⟨by rfl, ?_⟩) ?_ ?_
  rotate_left
  · intro w'
    go_simp
    with_reducible rfl
  rotate_left
  · simp only [Act.put, List.setIfInBounds_toArray, List.set_cons_zero, List.set_cons_succ, i64_w, i32_w]
    rfl
  refine pure_ (i := 4) (N := some 19) (v := ?_) (a' := ?_) #[true, true, true, true, true, false, false, false, false, false, false, false, false, false, false, false, false] rfl rfl (by kernel_rfl) (fun _ _ _ h => h) (Or.inl ⟨by rfl, ?_⟩) ?_ ?_
  rotate_left
  · intro w'
    go_simp
    with_reducible rfl
  rotate_left
  · simp only [Act.put, List.setIfInBounds_toArray, List.set_cons_zero, List.set_cons_succ, i64_w, i32_w]
    rfl
  refine pure_ (i := 5) (N := some 20) (v := ?_) (a' := ?_) #[true, true, true, true, true, true, false, false, false, false, false, false, false, false, false, false, false] rfl rfl (by kernel_rfl) (fun _ _ _ h => h) (Or.inl ⟨by rfl, ?_⟩) ?_ ?_
  rotate_left
  · intro w'
    go_simp
    with_reducible rfl
  rotate_left
  · simp only [Act.put, List.setIfInBounds_toArray, List.set_cons_zero, List.set_cons_succ, i64_w, i32_w]
    rfl
  refine pure_ (i := 6) (N := some 21) (v := ?_) (a' := ?_) #[true, true, true, true, true, true, true, false, false, false, false, false, false, false, false, false, false] rfl rfl (by kernel_rfl) (fun _ _ _ h => h) (Or.inl ⟨by rfl, ?_⟩) ?_ ?_
  rotate_left
  · intro w'
    go_simp
    with_reducible rfl
  rotate_left
  · simp only [Act.put, List.setIfInBounds_toArray, List.set_cons_zero, List.set_cons_succ, i64_w, i32_w]
    rfl
  refine take_ (i := 7) (N := some 22) (v := ?_) (a' := ?_) #[true, true, true, true, true, true, true, true, false, false, false, false, false, false, false, false, false] rfl rfl (by kernel_rfl) (fun _ _ _ h => h) (Or.inl ⟨by rfl, ?_⟩) hHeld ?_ ?_
  rotate_left
  · rintro w' ⟨s0, s1, s2⟩
    go_simp
    with_reducible rfl
  rotate_left
  · simp only [Act.put, List.setIfInBounds_toArray, List.set_cons_zero, List.set_cons_succ, i64_w, i32_w]
    rfl
  refine pure_ (i := 8) (N := some 23) (v := ?_) (a' := ?_) #[true, true, true, true, true, true, true, true, true, false, false, false, false, false, false, false, false] rfl rfl (by kernel_rfl) (fun _ _ _ h => h) (Or.inl ⟨by rfl, ?_⟩) ?_ ?_
  rotate_left
  · intro w'
    go_simp
    with_reducible rfl
  rotate_left
  · simp only [Act.put, List.setIfInBounds_toArray, List.set_cons_zero, List.set_cons_succ, i64_w, i32_w]
    rfl
  refine pure_ (i := 9) (N := some 24) (v := ?_) (a' := ?_) #[true, true, true, true, true, true, true, true, true, true, false, false, false, false, false, false, false] rfl rfl (by kernel_rfl) (fun _ _ _ h => h) (Or.inl ⟨by rfl, ?_⟩) ?_ ?_
  rotate_left
  · intro w'
    go_simp
    with_reducible rfl
  rotate_left
  · simp only [Act.put, List.setIfInBounds_toArray, List.set_cons_zero, List.set_cons_succ, i64_w, i32_w]
    rfl
  refine pure_ (i := 10) (N := some 25) (v := ?_) (a' := ?_) #[true, true, true, true, true, true, true, true, true, true, true, false, false, false, false, false, false] rfl rfl (by kernel_rfl) (fun _ _ _ h => h) (Or.inl ⟨by rfl, ?_⟩) ?_ ?_
  rotate_left
  · intro w'
    go_simp
    with_reducible rfl
  rotate_left
  · simp only [Act.put, List.setIfInBounds_toArray, List.set_cons_zero, List.set_cons_succ, i64_w, i32_w]
    rfl
  refine pure_ (i := 11) (N := some 26) (v := ?_) (a' := ?_) #[true, true, true, true, true, true, true, true, true, true, true, true, false, false, false, false, false] rfl rfl (by kernel_rfl) (fun _ _ _ h => h) (Or.inl ⟨by rfl, ?_⟩) ?_ ?_
  rotate_left
  · intro w'
    go_simp
    with_reducible rfl
  rotate_left
  · simp only [Act.put, List.setIfInBounds_toArray, List.set_cons_zero, List.set_cons_succ, i64_w, i32_w]
    rfl
  refine pure_ (i := 12) (N := some 27) (v := ?_) (a' := ?_) #[true, true, true, true, true, true, true, true, true, true, true, true, true, false, false, false, false] rfl rfl (by kernel_rfl) (fun _ _ _ h => h) (Or.inl ⟨by rfl, ?_⟩) ?_ ?_
  rotate_left
  · intro w'
    go_simp
    with_reducible rfl
  rotate_left
  · simp only [Act.put, List.setIfInBounds_toArray, List.set_cons_zero, List.set_cons_succ, i64_w, i32_w]
    rfl
  refine take_ (i := 13) (N := some 28) (v := ?_) (a' := ?_) #[true, true, true, true, true, true, true, true, true, true, true, true, true, true, false, false, false] rfl rfl (by kernel_rfl) (fun _ _ _ h => h) (Or.inl ⟨by rfl, ?_⟩) hHeld ?_ ?_
  rotate_left
  · rintro w' ⟨s0, s1, s2⟩
    go_simp
    with_reducible rfl
  rotate_left
  · simp only [Act.put, List.setIfInBounds_toArray, List.set_cons_zero, List.set_cons_succ, i64_w, i32_w]
    rfl
  refine pure_ (i := 14) (N := some 29) (v := ?_) (a' := ?_) #[true, true, true, true, true, true, true, true, true, true, true, true, true, true, true, false, false] rfl rfl (by kernel_rfl) (fun _ _ _ h => h) (Or.inl ⟨by rfl, ?_⟩) ?_ ?_
  rotate_left
  · intro w'
    go_simp
    with_reducible rfl
  rotate_left
  · simp only [Act.put, List.setIfInBounds_toArray, List.set_cons_zero, List.set_cons_succ, i64_w, i32_w]
    rfl
  refine pure_ (i := 15) (N := some 30) (v := ?_) (a' := ?_) #[true, true, true, true, true, true, true, true, true, true, true, true, true, true, true, true, false] rfl rfl (by kernel_rfl) (fun _ _ _ h => h) (Or.inl ⟨by rfl, ?_⟩) ?_ ?_
  rotate_left
  · intro w'
    go_simp
    with_reducible rfl
  rotate_left
  · simp only [Act.put, List.setIfInBounds_toArray, List.set_cons_zero, List.set_cons_succ, i64_w, i32_w]
    rfl
  refine pure_ (i := 16) (N := some 5) (v := ?_) (a' := ?_) #[true, true, true, true, true, true, true, true, true, true, true, true, true, true, true, true, true] rfl rfl (by kernel_rfl) (fun _ _ _ h => h) (Or.inl ⟨by rfl, ?_⟩) ?_ ?_
  rotate_left
  · intro w'
    go_simp
    with_reducible rfl
  rotate_left
  · simp only [Act.put, List.setIfInBounds_toArray, List.set_cons_zero, List.set_cons_succ, i64_w, i32_w]
    rfl
  refine done_ (by kernel_rfl) ?_
  have HS2 := Aside0.mk (HS.out.below B1.out.drew)
  have B2 := Aside0.mk B1.out.drew
  clear hHeld k1 k2 k3 K1 B1 m1 m2 m3 m4 x1 x2 x3
  have w4 := W4.out
  generalize w1.drew = w2 at HS2 B2 ⊢
  go_wp2_with (go_at_call 50; refine (front_calls HS2.out N RB.out HK.out HT.out (by have := HT'.out; omega)).mono ?_; rintro e3 w3 ⟨v3, rfl, ho3, hb3⟩; obtain ⟨A3, c3, e3⟩ := Kd.R_slice ho3; subst e3; have B3 := Aside0.mk (below_step B2.out hb3); clear hb3 ho3)
  go_ret2
  exact RNextPost.bad HS.out B3.out 2 HE.out
theorem Sr.setT {w : World} {base rb : Nat} {t : Int} {ks bs : List Int} {va vb : Value} (h : Sr w base rb t ks bs va vb) (T : Int) : Sr (w.setCell ⟨rb, 0, none⟩ (.int .i64 T)) base rb T ks bs va vb := by
  refine ⟨World.cell?_setCell_same _ _ _ h.c0, ?_, ?_, ?_, ?_, ?_, ?_, ?_, h.na, h.nb, h.nab, h.lo, by have := h.bz; simp [World.setCell]; omega, h.len, h.by_⟩
  · rw [World.cell?_setCell_other _ _ _ _ (by simp)]; exact h.c1
  · rw [World.cell?_setCell_other _ _ _ _ (by simp)]; exact h.c2
  · rw [World.frozen?_setCell]; exact h.f0
  · rw [World.frozen?_setCell]; exact h.f1
  · rw [World.frozen?_setCell]; exact h.f2
  · exact row_keep h.ra (fun k hk => Below.heap_setCell _ _ _ _ (fun e => h.na (by rw [hk, e])))
  · exact row_keep h.rb_ (fun k hk => Below.heap_setCell _ _ _ _ (fun e => h.nb (by rw [hk, e])))
structure Rw (w : World) (base : Nat) (va vb : Value) (xs ys : List Int) : Prop where
  oa : (Kd.int .i64).R 3 w base (fun _ => True) va xs
  ob : (Kd.int .u8).R 5 w base (fun _ => True) vb ys
  ab : ∀ k, va.ownBlock = some k → vb.ownBlock ≠ some k
theorem Rw.drew {w : World} {base : Nat} {va vb : Value} {xs ys : List Int} (h : Rw w base va vb xs ys) : Rw w.drew base va vb xs ys := ⟨Kd.R_drew h.oa, Kd.R_drew h.ob, h.ab⟩
set_option maxHeartbeats 4000000 in
set_option maxRecDepth 100000 in
theorem rnext_ok {w : World} {base rb : Nat} {t : Int} {ks bs : List Int} {va vb : Value} (hS : Sr w base rb t ks bs va vb) (hk : ks.length ≤ 1000000) (ht : 0 ≤ t) (ht' : t ≤ 274877906944) (hlow : ∀ k, k < t → FR ks bs k = none) (h4 : ¬ (front (FR ks bs) t 4).length < 4) (h5 : ¬ mlen (front (FR ks bs) t 4) > 2004)
    (h6 : ¬ (front (FR ks bs) t (mlen (front (FR ks bs) t 4)).toNat).length < (mlen (front (FR ks bs) t 4)).toNat) :
    Calls Try.prog 23 #[.pointer (some ⟨rb, 0, none⟩)] w fun e w' => RNextPost w w' base rb t ks bs va vb e := by
  have he : nextR (FR ks bs) t = (front (FR ks bs) t (mlen (front (FR ks bs) t 4)).toNat, 0) := by unfold nextR; rw [if_neg h4, if_neg h5, if_neg h6]
  obtain ⟨Aa, ca, eva, -, -⟩ := Kd.R_reads hS.ra
  obtain ⟨Ab, cb, evb, -, -⟩ := Kd.R_reads hS.rb_
  subst eva
  subst evb
  have HS := Aside0.mk hS
  have HE := Aside0.mk he
  have HFB := FR_FB ks bs hS.by_
  have HB := Aside0.mk (front_bytes HFB 4 t)
  have H1 : Calls Try.prog 50 #[.pointer (some ⟨rb, 0, none⟩), .int .i64 4] w _ := front_calls hS 4 (by omega) hk ht (by omega)
  have d0 : decide (((front (FR ks bs) t 4).length : Int) < 4) = false := decide_eq_false (by omega)
  have d1 : decide ((front (FR ks bs) t 4).length < 4) = false := decide_eq_false (by omega)
  have H4 := Aside0.mk (show 4 ≤ (front (FR ks bs) t 4).length by omega)
  have HT := Aside0.mk ht
  have HT' := Aside0.mk ht'
  have HK := Aside0.mk hk
  generalize hfr : front (FR ks bs) t 4 = fr at *
  obtain ⟨R, hR, m1, m2, m3, m4, x1, x2, x3, hRb⟩ := raw_of fr HB.out H4.out
  have g1 : (1 : Int) < (fr.length : Int) := by have := H4.out; omega
  have g2 : (2 : Int) < (fr.length : Int) := by have := H4.out; omega
  have g3 : (3 : Int) < (fr.length : Int) := by have := H4.out; omega
  have n1 : 1 < fr.length := by have := H4.out; omega
  have n2 : 2 < fr.length := by have := H4.out; omega
  have n3 : 3 < fr.length := by have := H4.out; omega
  obtain ⟨N, hN⟩ : ∃ N : Nat, N = R + 4 := ⟨_, rfl⟩
  rw [hR, show ((4 : Int) + (R : Int)).toNat = N by omega] at h6
  have d2 : decide (2000 < (R : Int)) = false := decide_eq_false (by omega)
  have d2' : decide (2000 < R) = false := decide_eq_false (by omega)
  have RB := Aside0.mk (show N ≤ 1000000 by omega)
  have NB := Aside0.mk (show N ≤ 2004 by omega)
  have W4 := Aside0.mk (show wrap64 ((R : Int) + 4) = (N : Int) by unfold wrap64; omega)
  rw [hR, show ((4 : Int) + (R : Int)).toNat = N by omega] at he
  replace HE := Aside0.mk he
  have HLEN := Aside0.mk (show (front (FR ks bs) t N).length = N from Nat.le_antisymm (front_le _ N t) (Nat.le_of_not_lt h6))
  have HLOW := Aside0.mk hlow
  obtain ⟨T, hT⟩ : ∃ T : Int, T = t + N := ⟨_, rfl⟩
  have HTT := Aside0.mk hT
  have EN := Aside0.mk (show wrap64 (t + (N : Int)) = T by have := NB.out; unfold wrap64; omega)
  clear h5 h6 hR hRb hN hlow hT
  clear hS ht ht' hk he h4 HFB hfr
  go_enter Try.func23, Try.ntmps23
  go_wp2_with (go_at_call 50; refine H1.mono ?_; clear H1; rintro e1 w1 ⟨v1, rfl, ho1, hb1⟩; obtain ⟨A1, c1, rfl, l1, kk1⟩ := Kd.R_reads ho1; have B1 := Aside0.mk hb1; have K1 := Aside0.mk kk1; clear hb1 ho1 kk1 l1)
  obtain ⟨ad, rfl, k1, k2, k3⟩ := cells_of K1.out H4.out
  generalize rd fr 1 = b1 at *
  generalize rd fr 2 = b2 at *
  generalize rd fr 3 = b3 at *
  refine start_ (n := 17) (S := fun w' => w'.cell? ⟨ad.block, ad.off + 1, none⟩ = some (.int .u8 b1) ∧ w'.cell? ⟨ad.block, ad.off + 2, none⟩ = some (.int .u8 b2) ∧ w'.cell? ⟨ad.block, ad.off + 3, none⟩ = some (.int .u8 b3)) (ds := []) #[false, false, false, false, false, false, false, false, false, false, false, false, false, false, false, false, false] (by kernel_rfl) rfl rfl ⟨k1, k2, k3⟩ (fun hHeld => ?_)
  refine pure_ (i := 0) (N := some 15) (v := ?_) (a' := ?_) #[true, false, false, false, false, false, false, false, false, false, false, false, false, false, false, false, false] rfl rfl (by kernel_rfl) (fun _ _ _ h => h) (Or.inl ⟨by rfl, ?_⟩) ?_ ?_
  rotate_left
  · intro w'
    go_simp
    with_reducible rfl
  rotate_left
  · simp only [Act.put, List.setIfInBounds_toArray, List.set_cons_zero, List.set_cons_succ, i64_w, i32_w]
    rfl
  refine pure_ (i := 1) (N := some 16) (v := ?_) (a' := ?_) #[true, true, false, false, false, false, false, false, false, false, false, false, false, false, false, false, false] rfl rfl (by kernel_rfl) (fun _ _ _ h => h) (Or.inl ⟨by rfl, ?_⟩) ?_ ?_
  rotate_left
  · intro w'
    go_simp
    with_reducible rfl
  rotate_left
  · simp only [Act.put, List.setIfInBounds_toArray, List.set_cons_zero, List.set_cons_succ, i64_w, i32_w]
    rfl
  refine take_ (i := 2) (N := some 17) (v := ?_) (a' := ?_) #[true, true, true, false, false, false, false, false, false, false, false, false, false, false, false, false, false] rfl rfl (by kernel_rfl) (fun _ _ _ h => h) (Or.inl ⟨by rfl, ?_⟩) hHeld ?_ ?_
  rotate_left
  · rintro w' ⟨s0, s1, s2⟩
    go_simp
    with_reducible rfl
  rotate_left
  · simp only [Act.put, List.setIfInBounds_toArray, List.set_cons_zero, List.set_cons_succ, i64_w, i32_w]
    rfl
  refine pure_ (i := 3) (N := some 18) (v := ?_) (a' := ?_) #[true, true, true, true, false, false, false, false, false, false, false, false, false, false, false, false, false] rfl rfl (by kernel_rfl) (fun _ _ _ h => h) (Or.inl ⟨by rfl, ?_⟩) ?_ ?_
  rotate_left
  · intro w'
    go_simp
    with_reducible rfl
  rotate_left
  · simp only [Act.put, List.setIfInBounds_toArray, List.set_cons_zero, List.set_cons_succ, i64_w, i32_w]
    rfl
  refine pure_ (i := 4) (N := some 19) (v := ?_) (a' := ?_) #[true, true, true, true, true, false, false, false, false, false, false, false, false, false, false, false, false] rfl rfl (by kernel_rfl) (fun _ _ _ h => h) (Or.inl ⟨by rfl, ?_⟩) ?_ ?_
  rotate_left
  · intro w'
    go_simp
    with_reducible rfl
  rotate_left
  · simp only [Act.put, List.setIfInBounds_toArray, List.set_cons_zero, List.set_cons_succ, i64_w, i32_w]
    rfl
  refine pure_ (i := 5) (N := some 20) (v := ?_) (a' := ?_) #[true, true, true, true, true, true, false, false, false, false, false, false, false, false, false, false, false] rfl rfl (by kernel_rfl) (fun _ _ _ h => h) (Or.inl ⟨by rfl, ?_⟩) ?_ ?_
  rotate_left
  · intro w'
    go_simp
    with_reducible rfl
  rotate_left
  · simp only [Act.put, List.setIfInBounds_toArray, List.set_cons_zero, List.set_cons_succ, i64_w, i32_w]
    rfl
  refine pure_ (i := 6) (N := some 21) (v := ?_) (a' := ?_) #[true, true, true, true, true, true, true, false, false, false, false, false, false, false, false, false, false] rfl rfl (by kernel_rfl) (fun _ _ _ h => h) (Or.inl ⟨by rfl, ?_⟩) ?_ ?_
  rotate_left
  · intro w'
    go_simp
    with_reducible rfl
  rotate_left
  · simp only [Act.put, List.setIfInBounds_toArray, List.set_cons_zero, List.set_cons_succ, i64_w, i32_w]
    rfl
  refine take_ (i := 7) (N := some 22) (v := ?_) (a' := ?_) #[true, true, true, true, true, true, true, true, false, false, false, false, false, false, false, false, false] rfl rfl (by kernel_rfl) (fun _ _ _ h => h) (Or.inl ⟨by rfl, ?_⟩) hHeld ?_ ?_
  rotate_left
  · rintro w' ⟨s0, s1, s2⟩
    go_simp
    with_reducible rfl
  rotate_left
  · simp only [Act.put, List.setIfInBounds_toArray, List.set_cons_zero, List.set_cons_succ, i64_w, i32_w]
    rfl
  refine pure_ (i := 8) (N := some 23) (v := ?_) (a' := ?_) #[true, true, true, true, true, true, true, true, true, false, false, false, false, false, false, false, false] rfl rfl (by kernel_rfl) (fun _ _ _ h => h) (Or.inl ⟨by rfl, ?_⟩) ?_ ?_
  rotate_left
  · intro w'
    go_simp
    with_reducible rfl
  rotate_left
  · simp only [Act.put, List.setIfInBounds_toArray, List.set_cons_zero, List.set_cons_succ, i64_w, i32_w]
    rfl
  refine pure_ (i := 9) (N := some 24) (v := ?_) (a' := ?_) #[true, true, true, true, true, true, true, true, true, true, false, false, false, false, false, false, false] rfl rfl (by kernel_rfl) (fun _ _ _ h => h) (Or.inl ⟨by rfl, ?_⟩) ?_ ?_
  rotate_left
  · intro w'
    go_simp
    with_reducible rfl
  rotate_left
  · simp only [Act.put, List.setIfInBounds_toArray, List.set_cons_zero, List.set_cons_succ, i64_w, i32_w]
    rfl
  refine pure_ (i := 10) (N := some 25) (v := ?_) (a' := ?_) #[true, true, true, true, true, true, true, true, true, true, true, false, false, false, false, false, false] rfl rfl (by kernel_rfl) (fun _ _ _ h => h) (Or.inl ⟨by rfl, ?_⟩) ?_ ?_
  rotate_left
  · intro w'
    go_simp
    with_reducible rfl
  rotate_left
  · simp only [Act.put, List.setIfInBounds_toArray, List.set_cons_zero, List.set_cons_succ, i64_w, i32_w]
    rfl
  refine pure_ (i := 11) (N := some 26) (v := ?_) (a' := ?_) #[true, true, true, true, true, true, true, true, true, true, true, true, false, false, false, false, false] rfl rfl (by kernel_rfl) (fun _ _ _ h => h) (Or.inl ⟨by rfl, ?_⟩) ?_ ?_
  rotate_left
  · intro w'
    go_simp
    with_reducible rfl
  rotate_left
  · simp only [Act.put, List.setIfInBounds_toArray, List.set_cons_zero, List.set_cons_succ, i64_w, i32_w]
    rfl
  refine pure_ (i := 12) (N := some 27) (v := ?_) (a' := ?_) #[true, true, true, true, true, true, true, true, true, true, true, true, true, false, false, false, false] rfl rfl (by kernel_rfl) (fun _ _ _ h => h) (Or.inl ⟨by rfl, ?_⟩) ?_ ?_
  rotate_left
  · intro w'
    go_simp
    with_reducible rfl
  rotate_left
  · simp only [Act.put, List.setIfInBounds_toArray, List.set_cons_zero, List.set_cons_succ, i64_w, i32_w]
    rfl
  refine take_ (i := 13) (N := some 28) (v := ?_) (a' := ?_) #[true, true, true, true, true, true, true, true, true, true, true, true, true, true, false, false, false] rfl rfl (by kernel_rfl) (fun _ _ _ h => h) (Or.inl ⟨by rfl, ?_⟩) hHeld ?_ ?_
  rotate_left
  · rintro w' ⟨s0, s1, s2⟩
    go_simp
    with_reducible rfl
  rotate_left
  · simp only [Act.put, List.setIfInBounds_toArray, List.set_cons_zero, List.set_cons_succ, i64_w, i32_w]
    rfl
  refine pure_ (i := 14) (N := some 29) (v := ?_) (a' := ?_) #[true, true, true, true, true, true, true, true, true, true, true, true, true, true, true, false, false] rfl rfl (by kernel_rfl) (fun _ _ _ h => h) (Or.inl ⟨by rfl, ?_⟩) ?_ ?_
  rotate_left
  · intro w'
    go_simp
    with_reducible rfl
  rotate_left
  · simp only [Act.put, List.setIfInBounds_toArray, List.set_cons_zero, List.set_cons_succ, i64_w, i32_w]
    rfl
  refine pure_ (i := 15) (N := some 30) (v := ?_) (a' := ?_) #[true, true, true, true, true, true, true, true, true, true, true, true, true, true, true, true, false] rfl rfl (by kernel_rfl) (fun _ _ _ h => h) (Or.inl ⟨by rfl, ?_⟩) ?_ ?_
  rotate_left
  · intro w'
    go_simp
    with_reducible rfl
  rotate_left
  · simp only [Act.put, List.setIfInBounds_toArray, List.set_cons_zero, List.set_cons_succ, i64_w, i32_w]
    rfl
  refine pure_ (i := 16) (N := some 5) (v := ?_) (a' := ?_) #[true, true, true, true, true, true, true, true, true, true, true, true, true, true, true, true, true] rfl rfl (by kernel_rfl) (fun _ _ _ h => h) (Or.inl ⟨by rfl, ?_⟩) ?_ ?_
  rotate_left
  · intro w'
    go_simp
    with_reducible rfl
  rotate_left
  · simp only [Act.put, List.setIfInBounds_toArray, List.set_cons_zero, List.set_cons_succ, i64_w, i32_w]
    rfl
  refine done_ (by kernel_rfl) ?_
  have HS2 := Aside0.mk (HS.out.below B1.out.drew)
  have B2 := Aside0.mk B1.out.drew
  clear hHeld k1 k2 k3 K1 B1 m1 m2 m3 m4 x1 x2 x3
  have w4 := W4.out
  generalize w1.drew = w2 at HS2 B2 ⊢
  have en := EN.out
  go_wp2_with (go_at_call 50; refine (front_calls HS2.out N RB.out HK.out HT.out (by have := HT'.out; omega)).mono ?_; rintro e3 w3 ⟨v3, rfl, ho3, hb3⟩; obtain ⟨A3, c3, e3⟩ := Kd.R_slice ho3; rw [HLEN.out] at e3; subst e3; have HO3 := Aside0.mk (Kd.R_lower ho3 B2.out.size); have B3 := Aside0.mk (below_step B2.out hb3); have HS3 := Aside0.mk (HS2.out.below hb3); have c0 := HS3.out.c0; have f0 := HS3.out.f0; clear ho3 hb3)
  have HS4 := Aside0.mk (HS3.out.setT T)
  have O34 := Aside0.mk ((Only.refl (fun k => k = rb) w3).setCell (ad := ⟨rb, 0, none⟩) rfl (.int .i64 T))
  have HM4 := Aside0.mk (row_keep (w1 := w3.setCell ⟨rb, 0, none⟩ (.int .i64 T)) HO3.out (fun k hk => Below.heap_setCell _ _ _ _ (fun e => by have := row_ge HO3.out k hk; have := HS.out.lt; simp only [] at e; omega)))
  have O04 := Aside0.mk ((Only.of_below B3.out : Only (fun k => k = rb) w w3).trans O34.out)
  clear d0 d1 d2 d2' w4 en c0 f0 O34 HO3 HS2 B2 HS3 B3 g1 g2 g3 n1 n2 n3
  generalize w3.setCell ⟨rb, 0, none⟩ (.int .i64 T) = w4 at HS4 HM4 O04 ⊢
  obtain ⟨A', c', e', -, ka⟩ := Kd.R_reads HS4.out.ra
  injection e' with e1 _ e2
  subst e1
  subst e2
  obtain ⟨A', c', e', -, kb⟩ := Kd.R_reads HS4.out.rb_
  injection e' with e1 _ e2
  subst e1
  subst e2
  have KA := Aside0.mk ka
  have KB := Aside0.mk kb
  clear ka kb
  go_loopg [7, 8, 9] ks.length (fun gg v7 v8 v9 wr => ∃ (j : Nat) (k2 b2 : List Int), j ≤ ks.length ∧ ks.length - j ≤ gg ∧ v9 = .int .i64 j ∧ Rw wr w4.heap.size v7 v8 k2 b2 ∧ Below w4.heap.size w4 wr ∧ Aside0 (FR k2 b2 = lowcut T (FR (ks.take j) (bs.take j))) ∧ Aside0 (k2.length = b2.length) ∧ Aside0 (k2.length ≤ j) ∧ Aside0 (Bytes b2))
  case atStart => exact ⟨0, [], [], Nat.zero_le _, by omega, rfl, ⟨Kd.R_nil _ _ _ _ _, Kd.R_nil _ _ _ _ _, fun k h => by simp [Value.ownBlock] at h⟩, Below.refl _ _, ⟨by funext k; unfold lowcut; simp [FR, held]⟩, ⟨rfl⟩, ⟨by simp⟩, ⟨fun x hx => by simp at hx⟩⟩
  case round =>
    obtain ⟨j, k2, b2, hj, hg, rfl, hRw, hb, HFR, HL2, HLJ, HB2⟩ := hrel
    have HSr := Aside0.mk (HS4.out.below hb)
    have c0 := HSr.out.c0
    have c1 := HSr.out.c1
    obtain ⟨A7, c7, e7, -, -⟩ := Kd.R_reads hRw.oa
    obtain ⟨A8, c8, e8, -, -⟩ := Kd.R_reads hRw.ob
    subst e7
    subst e8
    have RW := Aside0.mk hRw
    have BL := Aside0.mk hb
    clear hRw hb
    by_cases hlt : j < ks.length
    · have hltz : (j : Int) < (ks.length : Int) := by omega
      obtain ⟨ada, eA, hca⟩ := Kd.at_int KA.out (j : Int) (by omega) hltz
      obtain ⟨adb, eB, hcb⟩ := Kd.at_int KB.out (j : Int) (by omega) (by have := HSr.out.len; omega)
      rw [Int.toNat_natCast] at hca hcb
      subst eA
      subst eB
      have LAa := Aside0.mk (World.block_lt_of_cell? w4 _ hca)
      have LBb := Aside0.mk (World.block_lt_of_cell? w4 _ hcb)
      have ea := pw_cell_below BL.out hca
      have eb := pw_cell_below BL.out hcb
      have g2 : (j : Int) < (bs.length : Int) := by have := HSr.out.len; omega
      have n2 : j < bs.length := by have := HSr.out.len; omega
      have EW := Aside0.mk (show wrap64 ((j : Int) + 1) = ((j + 1 : Nat) : Int) by have := HK.out; unfold wrap64; omega)
      have HX8 := Aside0.mk (bytes_rd HSr.out.by_ j n2)
      have ALa := Aside0.mk (show (k2.length + 1) * 8 ≤ 140737488355328 by have := HLJ.out; have := HK.out; omega)
      have ALb := Aside0.mk (show (b2.length + 1) * 1 ≤ 140737488355328 by have := HLJ.out; have := HK.out; have := HL2.out; omega)
      by_cases hge : T ≤ rd ks (j : Int)
      · have d5 : decide (T ≤ rd ks (j : Int)) = true := decide_eq_true hge
        have LK := Aside0.mk (low_keep HSr.out.len HSr.out.by_ HL2.out HB2.out hlt HFR.out hge)
        clear hca hcb hge
        generalize rd ks (j : Int) = x at *
        generalize rd bs (j : Int) = y at *
        go_wp2
        refine start_ (n := 12) (S := fun w' => w'.cell? ⟨rb, 1, none⟩ = some (.slice (some ada) ks.length ca) ∧ w'.cell? (ada.add j) = some (.int .i64 x) ∧ w'.cell? ⟨rb, 0, none⟩ = some (.int .i64 T)) (ds := []) #[false, false, false, false, false, false, false, false, false, false, false, false] (by kernel_rfl) rfl rfl ⟨c1, ea, c0⟩ (fun hHeld => ?_)
        refine pure_ (i := 0) (N := some 60) (v := ?_) (a' := ?_) #[true, false, false, false, false, false, false, false, false, false, false, false] rfl rfl (by kernel_rfl) (fun _ _ _ h => h) (Or.inl ⟨by rfl, ?_⟩) ?_ ?_
        rotate_left
        · intro w'
          go_simp
          with_reducible rfl
        rotate_left
        · simp only [Act.put, List.setIfInBounds_toArray, List.set_cons_zero, List.set_cons_succ, i64_w, i32_w]
          rfl
        refine pure_ (i := 1) (N := some 61) (v := ?_) (a' := ?_) #[true, true, false, false, false, false, false, false, false, false, false, false] rfl rfl (by kernel_rfl) (fun _ _ _ h => h) (Or.inl ⟨by rfl, ?_⟩) ?_ ?_
        rotate_left
        · intro w'
          go_simp
          with_reducible rfl
        rotate_left
        · simp only [Act.put, List.setIfInBounds_toArray, List.set_cons_zero, List.set_cons_succ, i64_w, i32_w]
          rfl
        refine pure_ (i := 2) (N := some 62) (v := ?_) (a' := ?_) #[true, true, true, false, false, false, false, false, false, false, false, false] rfl rfl (by kernel_rfl) (fun _ _ _ h => h) (Or.inl ⟨by rfl, ?_⟩) ?_ ?_
        rotate_left
        · intro w'
          go_simp
          with_reducible rfl
        rotate_left
        · simp only [Act.put, List.setIfInBounds_toArray, List.set_cons_zero, List.set_cons_succ, i64_w, i32_w]
          rfl
        refine take_ (i := 3) (N := some 63) (v := ?_) (a' := ?_) #[true, true, true, true, false, false, false, false, false, false, false, false] rfl rfl (by kernel_rfl) (fun _ _ _ h => h) (Or.inl ⟨by rfl, ?_⟩) hHeld ?_ ?_
        rotate_left
        · rintro w' ⟨s0, s1, s2⟩
          go_simp
          with_reducible rfl
        rotate_left
        · simp only [Act.put, List.setIfInBounds_toArray, List.set_cons_zero, List.set_cons_succ, i64_w, i32_w]
          rfl
        refine pure_ (i := 4) (N := some 64) (v := ?_) (a' := ?_) #[true, true, true, true, true, false, false, false, false, false, false, false] rfl rfl (by kernel_rfl) (fun _ _ _ h => h) (Or.inl ⟨by rfl, ?_⟩) ?_ ?_
        rotate_left
        · intro w'
          go_simp
          with_reducible rfl
        rotate_left
        · simp only [Act.put, List.setIfInBounds_toArray, List.set_cons_zero, List.set_cons_succ, i64_w, i32_w]
          rfl
        refine pure_ (i := 5) (N := some 65) (v := ?_) (a' := ?_) #[true, true, true, true, true, true, false, false, false, false, false, false] rfl rfl (by kernel_rfl) (fun _ _ _ h => h) (Or.inl ⟨by rfl, ?_⟩) ?_ ?_
        rotate_left
        · intro w'
          go_simp
          with_reducible rfl
        rotate_left
        · simp only [Act.put, List.setIfInBounds_toArray, List.set_cons_zero, List.set_cons_succ, i64_w, i32_w]
          rfl
        refine take_ (i := 6) (N := some 66) (v := ?_) (a' := ?_) #[true, true, true, true, true, true, true, false, false, false, false, false] rfl rfl (by kernel_rfl) (fun _ _ _ h => h) (Or.inl ⟨by rfl, ?_⟩) hHeld ?_ ?_
        rotate_left
        · rintro w' ⟨s0, s1, s2⟩
          go_simp
          with_reducible rfl
        rotate_left
        · simp only [Act.put, List.setIfInBounds_toArray, List.set_cons_zero, List.set_cons_succ, i64_w, i32_w]
          rfl
        refine pure_ (i := 7) (N := some 67) (v := ?_) (a' := ?_) #[true, true, true, true, true, true, true, true, false, false, false, false] rfl rfl (by kernel_rfl) (fun _ _ _ h => h) (Or.inl ⟨by rfl, ?_⟩) ?_ ?_
        rotate_left
        · intro w'
          go_simp
          with_reducible rfl
        rotate_left
        · simp only [Act.put, List.setIfInBounds_toArray, List.set_cons_zero, List.set_cons_succ, i64_w, i32_w]
          rfl
        refine pure_ (i := 8) (N := some 68) (v := ?_) (a' := ?_) #[true, true, true, true, true, true, true, true, true, false, false, false] rfl rfl (by kernel_rfl) (fun _ _ _ h => h) (Or.inl ⟨by rfl, ?_⟩) ?_ ?_
        rotate_left
        · intro w'
          go_simp
          with_reducible rfl
        rotate_left
        · simp only [Act.put, List.setIfInBounds_toArray, List.set_cons_zero, List.set_cons_succ, i64_w, i32_w]
          rfl
        refine pure_ (i := 9) (N := some 69) (v := ?_) (a' := ?_) #[true, true, true, true, true, true, true, true, true, true, false, false] rfl rfl (by kernel_rfl) (fun _ _ _ h => h) (Or.inl ⟨by rfl, ?_⟩) ?_ ?_
        rotate_left
        · intro w'
          go_simp
          with_reducible rfl
        rotate_left
        · simp only [Act.put, List.setIfInBounds_toArray, List.set_cons_zero, List.set_cons_succ, i64_w, i32_w]
          rfl
        refine take_ (i := 10) (N := some 70) (v := ?_) (a' := ?_) #[true, true, true, true, true, true, true, true, true, true, true, false] rfl rfl (by kernel_rfl) (fun _ _ _ h => h) (Or.inl ⟨by rfl, ?_⟩) hHeld ?_ ?_
        rotate_left
        · rintro w' ⟨s0, s1, s2⟩
          go_simp
          with_reducible rfl
        rotate_left
        · simp only [Act.put, List.setIfInBounds_toArray, List.set_cons_zero, List.set_cons_succ, i64_w, i32_w]
          rfl
        refine pure_ (i := 11) (N := some 71) (v := ?_) (a' := ?_) #[true, true, true, true, true, true, true, true, true, true, true, true] rfl rfl (by kernel_rfl) (fun _ _ _ h => h) (Or.inl ⟨by rfl, ?_⟩) ?_ ?_
        rotate_left
        · intro w'
          go_simp
          with_reducible rfl
        rotate_left
        · simp only [Act.put, List.setIfInBounds_toArray, List.set_cons_zero, List.set_cons_succ, i64_w, i32_w]
          rfl
        refine done_ (by kernel_rfl) ?_
        have HSx := Aside0.mk (HSr.out.below (Below.refl _ _).drew)
        have RWx := Aside0.mk RW.out.drew
        have BLx := Aside0.mk BL.out.drew
        have EAx := Aside0.mk (show wr.drew.cell? (ada.add j) = some (.int .i64 x) from ea)
        have EBx := Aside0.mk (show wr.drew.cell? (adb.add j) = some (.int .u8 y) from eb)
        clear hHeld c0 c1 ea eb HSr RW BL
        generalize wr.drew = wx at HSx RWx BLx EAx EBx ⊢
        have c1 := HSx.out.c1
        have c2 := HSx.out.c2
        have ea := EAx.out
        have eb := EBx.out
        go_wp2
        refine start_ (n := 22) (S := fun w' => w'.cell? ⟨rb, 1, none⟩ = some (.slice (some ada) ks.length ca) ∧ w'.cell? ⟨rb, 2, none⟩ = some (.slice (some adb) bs.length cb) ∧ w'.cell? (ada.add j) = some (.int .i64 x) ∧ w'.cell? (adb.add j) = some (.int .u8 y)) (ds := []) #[false, false, false, false, false, false, false, false, false, false, false, false, false, false, false, false, false, false, false, false, false, false] (by kernel_rfl) rfl rfl ⟨c1, c2, ea, eb⟩ (fun hHeld => ?_)
        refine pure_ (i := 0) (N := some 72) (v := ?_) (a' := ?_) #[true, false, false, false, false, false, false, false, false, false, false, false, false, false, false, false, false, false, false, false, false, false] rfl rfl (by kernel_rfl) (fun _ _ _ h => h) (Or.inl ⟨by rfl, ?_⟩) ?_ ?_
        rotate_left
        · intro w'
          go_simp
          with_reducible rfl
        rotate_left
        · simp only [Act.put, List.setIfInBounds_toArray, List.set_cons_zero, List.set_cons_succ, i64_w, i32_w]
          rfl
        refine pure_ (i := 1) (N := some 73) (v := ?_) (a' := ?_) #[true, true, false, false, false, false, false, false, false, false, false, false, false, false, false, false, false, false, false, false, false, false] rfl rfl (by kernel_rfl) (fun _ _ _ h => h) (Or.inl ⟨by rfl, ?_⟩) ?_ ?_
        rotate_left
        · intro w'
          go_simp
          with_reducible rfl
        rotate_left
        · simp only [Act.put, List.setIfInBounds_toArray, List.set_cons_zero, List.set_cons_succ, i64_w, i32_w]
          rfl
        refine pure_ (i := 2) (N := some 74) (v := ?_) (a' := ?_) #[true, true, true, false, false, false, false, false, false, false, false, false, false, false, false, false, false, false, false, false, false, false] rfl rfl (by kernel_rfl) (fun _ _ _ h => h) (Or.inl ⟨by rfl, ?_⟩) ?_ ?_
        rotate_left
        · intro w'
          go_simp
          with_reducible rfl
        rotate_left
        · simp only [Act.put, List.setIfInBounds_toArray, List.set_cons_zero, List.set_cons_succ, i64_w, i32_w]
          rfl
        refine pure_ (i := 3) (N := some 75) (v := ?_) (a' := ?_) #[true, true, true, true, false, false, false, false, false, false, false, false, false, false, false, false, false, false, false, false, false, false] rfl rfl (by kernel_rfl) (fun _ _ _ h => h) (Or.inl ⟨by rfl, ?_⟩) ?_ ?_
        rotate_left
        · intro w'
          go_simp
          with_reducible rfl
        rotate_left
        · simp only [Act.put, List.setIfInBounds_toArray, List.set_cons_zero, List.set_cons_succ, i64_w, i32_w]
          rfl
        refine take_ (i := 4) (N := some 76) (v := ?_) (a' := ?_) #[true, true, true, true, true, false, false, false, false, false, false, false, false, false, false, false, false, false, false, false, false, false] rfl rfl (by kernel_rfl) (fun _ _ _ h => h) (Or.inl ⟨by rfl, ?_⟩) hHeld ?_ ?_
        rotate_left
        · rintro w' ⟨s0, s1, s2, s3⟩
          go_simp
          with_reducible rfl
        rotate_left
        · simp only [Act.put, List.setIfInBounds_toArray, List.set_cons_zero, List.set_cons_succ, i64_w, i32_w]
          rfl
        refine pure_ (i := 5) (N := some 77) (v := ?_) (a' := ?_) #[true, true, true, true, true, true, false, false, false, false, false, false, false, false, false, false, false, false, false, false, false, false] rfl rfl (by kernel_rfl) (fun _ _ _ h => h) (Or.inl ⟨by rfl, ?_⟩) ?_ ?_
        rotate_left
        · intro w'
          go_simp
          with_reducible rfl
        rotate_left
        · simp only [Act.put, List.setIfInBounds_toArray, List.set_cons_zero, List.set_cons_succ, i64_w, i32_w]
          rfl
        refine pure_ (i := 6) (N := some 78) (v := ?_) (a' := ?_) #[true, true, true, true, true, true, true, false, false, false, false, false, false, false, false, false, false, false, false, false, false, false] rfl rfl (by kernel_rfl) (fun _ _ _ h => h) (Or.inl ⟨by rfl, ?_⟩) ?_ ?_
        rotate_left
        · intro w'
          go_simp
          with_reducible rfl
        rotate_left
        · simp only [Act.put, List.setIfInBounds_toArray, List.set_cons_zero, List.set_cons_succ, i64_w, i32_w]
          rfl
        refine take_ (i := 7) (N := some 79) (v := ?_) (a' := ?_) #[true, true, true, true, true, true, true, true, false, false, false, false, false, false, false, false, false, false, false, false, false, false] rfl rfl (by kernel_rfl) (fun _ _ _ h => h) (Or.inl ⟨by rfl, ?_⟩) hHeld ?_ ?_
        rotate_left
        · rintro w' ⟨s0, s1, s2, s3⟩
          go_simp
          with_reducible rfl
        rotate_left
        · simp only [Act.put, List.setIfInBounds_toArray, List.set_cons_zero, List.set_cons_succ, i64_w, i32_w]
          rfl
        refine pure_ (i := 10) (N := some 82) (v := ?_) (a' := ?_) #[true, true, true, true, true, true, true, true, false, false, true, false, false, false, false, false, false, false, false, false, false, false] rfl rfl (by kernel_rfl) (fun _ _ _ h => h) (Or.inl ⟨by rfl, ?_⟩) ?_ ?_
        rotate_left
        · intro w'
          go_simp
          with_reducible rfl
        rotate_left
        · simp only [Act.put, List.setIfInBounds_toArray, List.set_cons_zero, List.set_cons_succ, i64_w, i32_w]
          rfl
        refine pure_ (i := 11) (N := some 83) (v := ?_) (a' := ?_) #[true, true, true, true, true, true, true, true, false, false, true, true, false, false, false, false, false, false, false, false, false, false] rfl rfl (by kernel_rfl) (fun _ _ _ h => h) (Or.inl ⟨by rfl, ?_⟩) ?_ ?_
        rotate_left
        · intro w'
          go_simp
          with_reducible rfl
        rotate_left
        · simp only [Act.put, List.setIfInBounds_toArray, List.set_cons_zero, List.set_cons_succ, i64_w, i32_w]
          rfl
        refine pure_ (i := 12) (N := some 84) (v := ?_) (a' := ?_) #[true, true, true, true, true, true, true, true, false, false, true, true, true, false, false, false, false, false, false, false, false, false] rfl rfl (by kernel_rfl) (fun _ _ _ h => h) (Or.inl ⟨by rfl, ?_⟩) ?_ ?_
        rotate_left
        · intro w'
          go_simp
          with_reducible rfl
        rotate_left
        · simp only [Act.put, List.setIfInBounds_toArray, List.set_cons_zero, List.set_cons_succ, i64_w, i32_w]
          rfl
        refine pure_ (i := 13) (N := some 85) (v := ?_) (a' := ?_) #[true, true, true, true, true, true, true, true, false, false, true, true, true, true, false, false, false, false, false, false, false, false] rfl rfl (by kernel_rfl) (fun _ _ _ h => h) (Or.inl ⟨by rfl, ?_⟩) ?_ ?_
        rotate_left
        · intro w'
          go_simp
          with_reducible rfl
        rotate_left
        · simp only [Act.put, List.setIfInBounds_toArray, List.set_cons_zero, List.set_cons_succ, i64_w, i32_w]
          rfl
        refine take_ (i := 14) (N := some 86) (v := ?_) (a' := ?_) #[true, true, true, true, true, true, true, true, false, false, true, true, true, true, true, false, false, false, false, false, false, false] rfl rfl (by kernel_rfl) (fun _ _ _ h => h) (Or.inl ⟨by rfl, ?_⟩) hHeld ?_ ?_
        rotate_left
        · rintro w' ⟨s0, s1, s2, s3⟩
          go_simp
          with_reducible rfl
        rotate_left
        · simp only [Act.put, List.setIfInBounds_toArray, List.set_cons_zero, List.set_cons_succ, i64_w, i32_w]
          rfl
        refine pure_ (i := 15) (N := some 87) (v := ?_) (a' := ?_) #[true, true, true, true, true, true, true, true, false, false, true, true, true, true, true, true, false, false, false, false, false, false] rfl rfl (by kernel_rfl) (fun _ _ _ h => h) (Or.inl ⟨by rfl, ?_⟩) ?_ ?_
        rotate_left
        · intro w'
          go_simp
          with_reducible rfl
        rotate_left
        · simp only [Act.put, List.setIfInBounds_toArray, List.set_cons_zero, List.set_cons_succ, i64_w, i32_w]
          rfl
        refine pure_ (i := 16) (N := some 88) (v := ?_) (a' := ?_) #[true, true, true, true, true, true, true, true, false, false, true, true, true, true, true, true, true, false, false, false, false, false] rfl rfl (by kernel_rfl) (fun _ _ _ h => h) (Or.inl ⟨by rfl, ?_⟩) ?_ ?_
        rotate_left
        · intro w'
          go_simp
          with_reducible rfl
        rotate_left
        · simp only [Act.put, List.setIfInBounds_toArray, List.set_cons_zero, List.set_cons_succ, i64_w, i32_w]
          rfl
        refine take_ (i := 17) (N := some 89) (v := ?_) (a' := ?_) #[true, true, true, true, true, true, true, true, false, false, true, true, true, true, true, true, true, true, false, false, false, false] rfl rfl (by kernel_rfl) (fun _ _ _ h => h) (Or.inl ⟨by rfl, ?_⟩) hHeld ?_ ?_
        rotate_left
        · rintro w' ⟨s0, s1, s2, s3⟩
          go_simp
          with_reducible rfl
        rotate_left
        · simp only [Act.put, List.setIfInBounds_toArray, List.set_cons_zero, List.set_cons_succ, i64_w, i32_w]
          rfl
        have HSd := Aside0.mk (HSx.out.below (Below.refl _ _).drew)
        have RWd := Aside0.mk RWx.out.drew
        have BLd := Aside0.mk BLx.out.drew
        have EAd := Aside0.mk (show wx.drew.cell? (ada.add j) = some (.int .i64 x) from ea)
        have EBd := Aside0.mk (show wx.drew.cell? (adb.add j) = some (.int .u8 y) from eb)
        clear hHeld c1 c2 ea eb HSx RWx BLx EAx EBx
        generalize wx.drew = wd at HSd RWd BLd EAd EBd ⊢
        have NO := Aside0.mk (show ∀ k, k < w4.heap.size → ¬ own2 (.slice A7 k2.length c7) (.slice A8 b2.length c8) k from fun k hk h => h.elim (fun h => by have := row_ge RWd.out.oa k h; omega) (fun h => by have := row_ge RWd.out.ob k h; omega))
        have hSH : ∀ {W' : World}, Only (own2 (.slice A7 k2.length c7) (.slice A8 b2.length c8)) wd W' → (W'.cell? ⟨rb, 1, none⟩ = some (.slice (some ada) ks.length ca) ∧ W'.cell? ⟨rb, 2, none⟩ = some (.slice (some adb) bs.length cb) ∧ W'.cell? (ada.add j) = some (.int .i64 x) ∧ W'.cell? (adb.add j) = some (.int .u8 y)) := fun ho => ⟨ho.cell (ad := ⟨rb, 1, none⟩) (NO.out _ HS4.out.lt) HSd.out.c1, ho.cell (ad := ⟨rb, 2, none⟩) (NO.out _ HS4.out.lt) HSd.out.c2, ho.cell (NO.out _ LAa.out) EAd.out, ho.cell (NO.out _ LBb.out) EBd.out⟩
        have BT := Aside0.mk (Bt.start RWd.out.oa RWd.out.ob RWd.out.ab BLd.out.size)
        refine two_ (i := 8) (j := 18) (Ni := some 80) (Nj := some 90) #[true, true, true, true, true, true, true, true, true, false, true, true, true, true, true, true, true, true, false, false, false, false] #[true, true, true, true, true, true, true, true, false, false, true, true, true, true, true, true, true, true, true, false, false, false] rfl rfl rfl rfl (by kernel_rfl) (by decide) (by decide) (fun K hK => ?_) (fun K hK => ?_)
        · skip
          have BTn := Aside0.mk (BT.out.alloc (.cells #[.int .i64 x] 3))
          have L0_ := Lt.new .i64 3 (x) BT.out.on.size
          try rw [World.size_alloc] at L0_
          have La := Aside0.mk L0_
          clear L0_
          first | (have Lb' := Aside0.mk (Lb.out.alloc (.cells #[.int .i64 x] 3)); clear Lb; have Lb := Lb'; clear Lb') | skip
          refine value_ (w1 := ?_) (v := ?_) (by rfl) rfl ?_ ?_
          rotate_left 2
          · go_simp
            constructor
            · rfl
            · rfl
          clear BT
          have BT := BTn
          clear BTn
          refine hK.out _ _ (hSH BT.out.on) (fun hHeld => ?_)
          clear hK K
          refine norm_ (a' := ?_) ?_ ?_
          rotate_left
          · show Act.put _ (some 80) _ = _
            simp only [Act.put, List.setIfInBounds_toArray, List.set_cons_zero, List.set_cons_succ, i64_w, i32_w]
            rfl
          refine two_ (i := 9) (j := 18) (Ni := some 81) (Nj := some 90) #[true, true, true, true, true, true, true, true, true, true, true, true, true, true, true, true, true, true, false, false, false, false] #[true, true, true, true, true, true, true, true, true, false, true, true, true, true, true, true, true, true, true, false, false, false] rfl rfl rfl rfl (by kernel_rfl) (by decide) (by decide) (fun K hK => ?_) (fun K hK => ?_)
          · skip
            refine Kd.R_append_rows_step (Kd.int .i64) (w0 := wd) w4.heap.size (by rfl) (.tmp 72) (.tmp 80) 22 3 (.int .i64 0) 8 rfl Try.underlying22 info3 rfl (by decide) (by omega) _ k2 [x] _ 1 1 (fun _ => True) (fun _ => False) rfl rfl BT.out.oa La.out.c (fun _ _ h => h) (fun _ h => h.elim) (fun _ _ => trivial) BT.out.below (Nat.le_trans BT.out.bz BT.out.on.size) ALa.out ?_
            intro v81 w81 ho hb hg hat
            obtain ⟨A81, c81, e81⟩ := Kd.R_slice ho
            obtain ⟨n81, hn81⟩ : ∃ n_, (k2 ++ [x]).length = n_ := ⟨_, rfl⟩
            rw [hn81] at e81
            subst e81
            clear hn81
            have BTn := Aside0.mk (BT.out.appA ho hg hat)
            first | (have Lb' := Aside0.mk (Lb.out.app hg (fun k e => (BT.out.la k (Or.inl e)).1)); clear Lb; have Lb := Lb'; clear Lb') | skip
            clear ho hb hg hat BT La
            have BT := BTn
            clear BTn
            refine hK.out _ _ (hSH BT.out.on) (fun hHeld => ?_)
            clear hK K
            refine norm_ (a' := ?_) ?_ ?_
            rotate_left
            · show Act.put _ (some 81) _ = _
              simp only [Act.put, List.setIfInBounds_toArray, List.set_cons_zero, List.set_cons_succ, i64_w, i32_w]
              rfl
            refine one_ (i := 18) (N := some 90) #[true, true, true, true, true, true, true, true, true, true, true, true, true, true, true, true, true, true, true, false, false, false] rfl rfl (by kernel_rfl) (by decide) (fun K hK => ?_)
            have BTn := Aside0.mk (BT.out.alloc (.cells #[.int .u8 y] 5))
            have L0_ := Lt.new .u8 5 (y) BT.out.on.size
            try rw [World.size_alloc] at L0_
            have Lb := Aside0.mk L0_
            clear L0_
            first | (have La' := Aside0.mk (La.out.alloc (.cells #[.int .u8 y] 5)); clear La; have La := La'; clear La') | skip
            refine value_ (w1 := ?_) (v := ?_) (by rfl) rfl ?_ ?_
            rotate_left 2
            · go_simp
              constructor
              · rfl
              · rfl
            clear BT
            have BT := BTn
            clear BTn
            refine hK.out _ _ (hSH BT.out.on) (fun hHeld => ?_)
            clear hK K
            refine norm_ (a' := ?_) ?_ ?_
            rotate_left
            · show Act.put _ (some 90) _ = _
              simp only [Act.put, List.setIfInBounds_toArray, List.set_cons_zero, List.set_cons_succ, i64_w, i32_w]
              rfl
            refine one_ (i := 19) (N := some 91) #[true, true, true, true, true, true, true, true, true, true, true, true, true, true, true, true, true, true, true, true, false, false] rfl rfl (by kernel_rfl) (by decide) (fun K hK => ?_)
            refine Kd.R_append_rows_step (Kd.int .u8) (w0 := wd) w4.heap.size (by rfl) (.tmp 82) (.tmp 90) 44 5 (.int .u8 0) 1 rfl Try.underlying44 info5 rfl (by decide) (by omega) _ b2 [y] _ 1 1 (fun _ => True) (fun _ => False) rfl rfl BT.out.ob Lb.out.c (fun _ _ h => h) (fun _ h => h.elim) (fun _ _ => trivial) BT.out.below (Nat.le_trans BT.out.bz BT.out.on.size) ALb.out ?_
            intro v91 w91 ho hb hg hat
            obtain ⟨A91, c91, e91⟩ := Kd.R_slice ho
            obtain ⟨n91, hn91⟩ : ∃ n_, (b2 ++ [y]).length = n_ := ⟨_, rfl⟩
            rw [hn91] at e91
            subst e91
            clear hn91
            have BTn := Aside0.mk (BT.out.appB ho hg hat)
            clear ho hb hg hat BT Lb
            have BT := BTn
            clear BTn
            refine hK.out _ _ (hSH BT.out.on) (fun hHeld => ?_)
            clear hK K
            refine norm_ (a' := ?_) ?_ ?_
            rotate_left
            · show Act.put _ (some 91) _ = _
              simp only [Act.put, List.setIfInBounds_toArray, List.set_cons_zero, List.set_cons_succ, i64_w, i32_w]
              rfl
            refine pure_ (i := 20) (N := some 7) (v := ?_) (a' := ?_) #[true, true, true, true, true, true, true, true, true, true, true, true, true, true, true, true, true, true, true, true, true, false] rfl rfl (by kernel_rfl) (fun _ _ _ h => h) (Or.inl ⟨by rfl, ?_⟩) ?_ ?_
            rotate_left
            · intro w'
              go_simp
              with_reducible rfl
            rotate_left
            · simp only [Act.put, List.setIfInBounds_toArray, List.set_cons_zero, List.set_cons_succ, i64_w, i32_w]
              rfl
            refine pure_ (i := 21) (N := some 8) (v := ?_) (a' := ?_) #[true, true, true, true, true, true, true, true, true, true, true, true, true, true, true, true, true, true, true, true, true, true] rfl rfl (by kernel_rfl) (fun _ _ _ h => h) (Or.inl ⟨by rfl, ?_⟩) ?_ ?_
            rotate_left
            · intro w'
              go_simp
              with_reducible rfl
            rotate_left
            · simp only [Act.put, List.setIfInBounds_toArray, List.set_cons_zero, List.set_cons_succ, i64_w, i32_w]
              rfl
            refine done_ (by kernel_rfl) ?_
            go_wp2
            go_roundg (ks.length - (j + 1))
            case measure => omega
            case rel => exact ⟨j + 1, k2 ++ [x], b2 ++ [y], by omega, by omega, by rw [EW.out], ⟨BT.out.oa, BT.out.ob, BT.out.ab⟩, BLd.out.trans BT.out.below, ⟨LK.out⟩, ⟨by have := HL2.out; simp [this]⟩, ⟨by have := HLJ.out; simp; omega⟩, ⟨bytes_snoc HB2.out HX8.out⟩⟩
          · skip
            have BTn := Aside0.mk (BT.out.alloc (.cells #[.int .u8 y] 5))
            have L0_ := Lt.new .u8 5 (y) BT.out.on.size
            try rw [World.size_alloc] at L0_
            have Lb := Aside0.mk L0_
            clear L0_
            first | (have La' := Aside0.mk (La.out.alloc (.cells #[.int .u8 y] 5)); clear La; have La := La'; clear La') | skip
            refine value_ (w1 := ?_) (v := ?_) (by rfl) rfl ?_ ?_
            rotate_left 2
            · go_simp
              constructor
              · rfl
              · rfl
            clear BT
            have BT := BTn
            clear BTn
            refine hK.out _ _ (hSH BT.out.on) (fun hHeld => ?_)
            clear hK K
            refine norm_ (a' := ?_) ?_ ?_
            rotate_left
            · show Act.put _ (some 90) _ = _
              simp only [Act.put, List.setIfInBounds_toArray, List.set_cons_zero, List.set_cons_succ, i64_w, i32_w]
              rfl
            refine one_ (i := 9) (N := some 81) #[true, true, true, true, true, true, true, true, true, true, true, true, true, true, true, true, true, true, true, false, false, false] rfl rfl (by kernel_rfl) (by decide) (fun K hK => ?_)
            refine Kd.R_append_rows_step (Kd.int .i64) (w0 := wd) w4.heap.size (by rfl) (.tmp 72) (.tmp 80) 22 3 (.int .i64 0) 8 rfl Try.underlying22 info3 rfl (by decide) (by omega) _ k2 [x] _ 1 1 (fun _ => True) (fun _ => False) rfl rfl BT.out.oa La.out.c (fun _ _ h => h) (fun _ h => h.elim) (fun _ _ => trivial) BT.out.below (Nat.le_trans BT.out.bz BT.out.on.size) ALa.out ?_
            intro v81 w81 ho hb hg hat
            obtain ⟨A81, c81, e81⟩ := Kd.R_slice ho
            obtain ⟨n81, hn81⟩ : ∃ n_, (k2 ++ [x]).length = n_ := ⟨_, rfl⟩
            rw [hn81] at e81
            subst e81
            clear hn81
            have BTn := Aside0.mk (BT.out.appA ho hg hat)
            first | (have Lb' := Aside0.mk (Lb.out.app hg (fun k e => (BT.out.la k (Or.inl e)).1)); clear Lb; have Lb := Lb'; clear Lb') | skip
            clear ho hb hg hat BT La
            have BT := BTn
            clear BTn
            refine hK.out _ _ (hSH BT.out.on) (fun hHeld => ?_)
            clear hK K
            refine norm_ (a' := ?_) ?_ ?_
            rotate_left
            · show Act.put _ (some 81) _ = _
              simp only [Act.put, List.setIfInBounds_toArray, List.set_cons_zero, List.set_cons_succ, i64_w, i32_w]
              rfl
            refine one_ (i := 19) (N := some 91) #[true, true, true, true, true, true, true, true, true, true, true, true, true, true, true, true, true, true, true, true, false, false] rfl rfl (by kernel_rfl) (by decide) (fun K hK => ?_)
            refine Kd.R_append_rows_step (Kd.int .u8) (w0 := wd) w4.heap.size (by rfl) (.tmp 82) (.tmp 90) 44 5 (.int .u8 0) 1 rfl Try.underlying44 info5 rfl (by decide) (by omega) _ b2 [y] _ 1 1 (fun _ => True) (fun _ => False) rfl rfl BT.out.ob Lb.out.c (fun _ _ h => h) (fun _ h => h.elim) (fun _ _ => trivial) BT.out.below (Nat.le_trans BT.out.bz BT.out.on.size) ALb.out ?_
            intro v91 w91 ho hb hg hat
            obtain ⟨A91, c91, e91⟩ := Kd.R_slice ho
            obtain ⟨n91, hn91⟩ : ∃ n_, (b2 ++ [y]).length = n_ := ⟨_, rfl⟩
            rw [hn91] at e91
            subst e91
            clear hn91
            have BTn := Aside0.mk (BT.out.appB ho hg hat)
            clear ho hb hg hat BT Lb
            have BT := BTn
            clear BTn
            refine hK.out _ _ (hSH BT.out.on) (fun hHeld => ?_)
            clear hK K
            refine norm_ (a' := ?_) ?_ ?_
            rotate_left
            · show Act.put _ (some 91) _ = _
              simp only [Act.put, List.setIfInBounds_toArray, List.set_cons_zero, List.set_cons_succ, i64_w, i32_w]
              rfl
            refine pure_ (i := 20) (N := some 7) (v := ?_) (a' := ?_) #[true, true, true, true, true, true, true, true, true, true, true, true, true, true, true, true, true, true, true, true, true, false] rfl rfl (by kernel_rfl) (fun _ _ _ h => h) (Or.inl ⟨by rfl, ?_⟩) ?_ ?_
            rotate_left
            · intro w'
              go_simp
              with_reducible rfl
            rotate_left
            · simp only [Act.put, List.setIfInBounds_toArray, List.set_cons_zero, List.set_cons_succ, i64_w, i32_w]
              rfl
            refine pure_ (i := 21) (N := some 8) (v := ?_) (a' := ?_) #[true, true, true, true, true, true, true, true, true, true, true, true, true, true, true, true, true, true, true, true, true, true] rfl rfl (by kernel_rfl) (fun _ _ _ h => h) (Or.inl ⟨by rfl, ?_⟩) ?_ ?_
            rotate_left
            · intro w'
              go_simp
              with_reducible rfl
            rotate_left
            · simp only [Act.put, List.setIfInBounds_toArray, List.set_cons_zero, List.set_cons_succ, i64_w, i32_w]
              rfl
            refine done_ (by kernel_rfl) ?_
            go_wp2
            go_roundg (ks.length - (j + 1))
            case measure => omega
            case rel => exact ⟨j + 1, k2 ++ [x], b2 ++ [y], by omega, by omega, by rw [EW.out], ⟨BT.out.oa, BT.out.ob, BT.out.ab⟩, BLd.out.trans BT.out.below, ⟨LK.out⟩, ⟨by have := HL2.out; simp [this]⟩, ⟨by have := HLJ.out; simp; omega⟩, ⟨bytes_snoc HB2.out HX8.out⟩⟩
        · skip
          have BTn := Aside0.mk (BT.out.alloc (.cells #[.int .u8 y] 5))
          have L0_ := Lt.new .u8 5 (y) BT.out.on.size
          try rw [World.size_alloc] at L0_
          have Lb := Aside0.mk L0_
          clear L0_
          first | (have La' := Aside0.mk (La.out.alloc (.cells #[.int .u8 y] 5)); clear La; have La := La'; clear La') | skip
          refine value_ (w1 := ?_) (v := ?_) (by rfl) rfl ?_ ?_
          rotate_left 2
          · go_simp
            constructor
            · rfl
            · rfl
          clear BT
          have BT := BTn
          clear BTn
          refine hK.out _ _ (hSH BT.out.on) (fun hHeld => ?_)
          clear hK K
          refine norm_ (a' := ?_) ?_ ?_
          rotate_left
          · show Act.put _ (some 90) _ = _
            simp only [Act.put, List.setIfInBounds_toArray, List.set_cons_zero, List.set_cons_succ, i64_w, i32_w]
            rfl
          refine one_ (i := 8) (N := some 80) #[true, true, true, true, true, true, true, true, true, false, true, true, true, true, true, true, true, true, true, false, false, false] rfl rfl (by kernel_rfl) (by decide) (fun K hK => ?_)
          have BTn := Aside0.mk (BT.out.alloc (.cells #[.int .i64 x] 3))
          have L0_ := Lt.new .i64 3 (x) BT.out.on.size
          try rw [World.size_alloc] at L0_
          have La := Aside0.mk L0_
          clear L0_
          first | (have Lb' := Aside0.mk (Lb.out.alloc (.cells #[.int .i64 x] 3)); clear Lb; have Lb := Lb'; clear Lb') | skip
          refine value_ (w1 := ?_) (v := ?_) (by rfl) rfl ?_ ?_
          rotate_left 2
          · go_simp
            constructor
            · rfl
            · rfl
          clear BT
          have BT := BTn
          clear BTn
          refine hK.out _ _ (hSH BT.out.on) (fun hHeld => ?_)
          clear hK K
          refine norm_ (a' := ?_) ?_ ?_
          rotate_left
          · show Act.put _ (some 80) _ = _
            simp only [Act.put, List.setIfInBounds_toArray, List.set_cons_zero, List.set_cons_succ, i64_w, i32_w]
            rfl
          refine one_ (i := 9) (N := some 81) #[true, true, true, true, true, true, true, true, true, true, true, true, true, true, true, true, true, true, true, false, false, false] rfl rfl (by kernel_rfl) (by decide) (fun K hK => ?_)
          refine Kd.R_append_rows_step (Kd.int .i64) (w0 := wd) w4.heap.size (by rfl) (.tmp 72) (.tmp 80) 22 3 (.int .i64 0) 8 rfl Try.underlying22 info3 rfl (by decide) (by omega) _ k2 [x] _ 1 1 (fun _ => True) (fun _ => False) rfl rfl BT.out.oa La.out.c (fun _ _ h => h) (fun _ h => h.elim) (fun _ _ => trivial) BT.out.below (Nat.le_trans BT.out.bz BT.out.on.size) ALa.out ?_
          intro v81 w81 ho hb hg hat
          obtain ⟨A81, c81, e81⟩ := Kd.R_slice ho
          obtain ⟨n81, hn81⟩ : ∃ n_, (k2 ++ [x]).length = n_ := ⟨_, rfl⟩
          rw [hn81] at e81
          subst e81
          clear hn81
          have BTn := Aside0.mk (BT.out.appA ho hg hat)
          first | (have Lb' := Aside0.mk (Lb.out.app hg (fun k e => (BT.out.la k (Or.inl e)).1)); clear Lb; have Lb := Lb'; clear Lb') | skip
          clear ho hb hg hat BT La
          have BT := BTn
          clear BTn
          refine hK.out _ _ (hSH BT.out.on) (fun hHeld => ?_)
          clear hK K
          refine norm_ (a' := ?_) ?_ ?_
          rotate_left
          · show Act.put _ (some 81) _ = _
            simp only [Act.put, List.setIfInBounds_toArray, List.set_cons_zero, List.set_cons_succ, i64_w, i32_w]
            rfl
          refine one_ (i := 19) (N := some 91) #[true, true, true, true, true, true, true, true, true, true, true, true, true, true, true, true, true, true, true, true, false, false] rfl rfl (by kernel_rfl) (by decide) (fun K hK => ?_)
          refine Kd.R_append_rows_step (Kd.int .u8) (w0 := wd) w4.heap.size (by rfl) (.tmp 82) (.tmp 90) 44 5 (.int .u8 0) 1 rfl Try.underlying44 info5 rfl (by decide) (by omega) _ b2 [y] _ 1 1 (fun _ => True) (fun _ => False) rfl rfl BT.out.ob Lb.out.c (fun _ _ h => h) (fun _ h => h.elim) (fun _ _ => trivial) BT.out.below (Nat.le_trans BT.out.bz BT.out.on.size) ALb.out ?_
          intro v91 w91 ho hb hg hat
          obtain ⟨A91, c91, e91⟩ := Kd.R_slice ho
          obtain ⟨n91, hn91⟩ : ∃ n_, (b2 ++ [y]).length = n_ := ⟨_, rfl⟩
          rw [hn91] at e91
          subst e91
          clear hn91
          have BTn := Aside0.mk (BT.out.appB ho hg hat)
          clear ho hb hg hat BT Lb
          have BT := BTn
          clear BTn
          refine hK.out _ _ (hSH BT.out.on) (fun hHeld => ?_)
          clear hK K
          refine norm_ (a' := ?_) ?_ ?_
          rotate_left
          · show Act.put _ (some 91) _ = _
            simp only [Act.put, List.setIfInBounds_toArray, List.set_cons_zero, List.set_cons_succ, i64_w, i32_w]
            rfl
          refine pure_ (i := 20) (N := some 7) (v := ?_) (a' := ?_) #[true, true, true, true, true, true, true, true, true, true, true, true, true, true, true, true, true, true, true, true, true, false] rfl rfl (by kernel_rfl) (fun _ _ _ h => h) (Or.inl ⟨by rfl, ?_⟩) ?_ ?_
          rotate_left
          · intro w'
            go_simp
            with_reducible rfl
          rotate_left
          · simp only [Act.put, List.setIfInBounds_toArray, List.set_cons_zero, List.set_cons_succ, i64_w, i32_w]
            rfl
          refine pure_ (i := 21) (N := some 8) (v := ?_) (a' := ?_) #[true, true, true, true, true, true, true, true, true, true, true, true, true, true, true, true, true, true, true, true, true, true] rfl rfl (by kernel_rfl) (fun _ _ _ h => h) (Or.inl ⟨by rfl, ?_⟩) ?_ ?_
          rotate_left
          · intro w'
            go_simp
            with_reducible rfl
          rotate_left
          · simp only [Act.put, List.setIfInBounds_toArray, List.set_cons_zero, List.set_cons_succ, i64_w, i32_w]
            rfl
          refine done_ (by kernel_rfl) ?_
          go_wp2
          go_roundg (ks.length - (j + 1))
          case measure => omega
          case rel => exact ⟨j + 1, k2 ++ [x], b2 ++ [y], by omega, by omega, by rw [EW.out], ⟨BT.out.oa, BT.out.ob, BT.out.ab⟩, BLd.out.trans BT.out.below, ⟨LK.out⟩, ⟨by have := HL2.out; simp [this]⟩, ⟨by have := HLJ.out; simp; omega⟩, ⟨bytes_snoc HB2.out HX8.out⟩⟩
      · have d5 : decide (T ≤ rd ks (j : Int)) = false := decide_eq_false hge
        have LD := Aside0.mk (low_drop HSr.out.len HSr.out.by_ hlt HFR.out hge)
        clear hca hcb hge eb
        generalize rd ks (j : Int) = x at *
        go_wp2
        refine start_ (n := 12) (S := fun w' => w'.cell? ⟨rb, 1, none⟩ = some (.slice (some ada) ks.length ca) ∧ w'.cell? (ada.add j) = some (.int .i64 x) ∧ w'.cell? ⟨rb, 0, none⟩ = some (.int .i64 T)) (ds := []) #[false, false, false, false, false, false, false, false, false, false, false, false] (by kernel_rfl) rfl rfl ⟨c1, ea, c0⟩ (fun hHeld => ?_)
        refine pure_ (i := 0) (N := some 60) (v := ?_) (a' := ?_) #[true, false, false, false, false, false, false, false, false, false, false, false] rfl rfl (by kernel_rfl) (fun _ _ _ h => h) (Or.inl ⟨by rfl, ?_⟩) ?_ ?_
        rotate_left
        · intro w'
          go_simp
          with_reducible rfl
        rotate_left
        · simp only [Act.put, List.setIfInBounds_toArray, List.set_cons_zero, List.set_cons_succ, i64_w, i32_w]
          rfl
        refine pure_ (i := 1) (N := some 61) (v := ?_) (a' := ?_) #[true, true, false, false, false, false, false, false, false, false, false, false] rfl rfl (by kernel_rfl) (fun _ _ _ h => h) (Or.inl ⟨by rfl, ?_⟩) ?_ ?_
        rotate_left
        · intro w'
          go_simp
          with_reducible rfl
        rotate_left
        · simp only [Act.put, List.setIfInBounds_toArray, List.set_cons_zero, List.set_cons_succ, i64_w, i32_w]
          rfl
        refine pure_ (i := 2) (N := some 62) (v := ?_) (a' := ?_) #[true, true, true, false, false, false, false, false, false, false, false, false] rfl rfl (by kernel_rfl) (fun _ _ _ h => h) (Or.inl ⟨by rfl, ?_⟩) ?_ ?_
        rotate_left
        · intro w'
          go_simp
          with_reducible rfl
        rotate_left
        · simp only [Act.put, List.setIfInBounds_toArray, List.set_cons_zero, List.set_cons_succ, i64_w, i32_w]
          rfl
        refine take_ (i := 3) (N := some 63) (v := ?_) (a' := ?_) #[true, true, true, true, false, false, false, false, false, false, false, false] rfl rfl (by kernel_rfl) (fun _ _ _ h => h) (Or.inl ⟨by rfl, ?_⟩) hHeld ?_ ?_
        rotate_left
        · rintro w' ⟨s0, s1, s2⟩
          go_simp
          with_reducible rfl
        rotate_left
        · simp only [Act.put, List.setIfInBounds_toArray, List.set_cons_zero, List.set_cons_succ, i64_w, i32_w]
          rfl
        refine pure_ (i := 4) (N := some 64) (v := ?_) (a' := ?_) #[true, true, true, true, true, false, false, false, false, false, false, false] rfl rfl (by kernel_rfl) (fun _ _ _ h => h) (Or.inl ⟨by rfl, ?_⟩) ?_ ?_
        rotate_left
        · intro w'
          go_simp
          with_reducible rfl
        rotate_left
        · simp only [Act.put, List.setIfInBounds_toArray, List.set_cons_zero, List.set_cons_succ, i64_w, i32_w]
          rfl
        refine pure_ (i := 5) (N := some 65) (v := ?_) (a' := ?_) #[true, true, true, true, true, true, false, false, false, false, false, false] rfl rfl (by kernel_rfl) (fun _ _ _ h => h) (Or.inl ⟨by rfl, ?_⟩) ?_ ?_
        rotate_left
        · intro w'
          go_simp
          with_reducible rfl
        rotate_left
        · simp only [Act.put, List.setIfInBounds_toArray, List.set_cons_zero, List.set_cons_succ, i64_w, i32_w]
          rfl
        refine take_ (i := 6) (N := some 66) (v := ?_) (a' := ?_) #[true, true, true, true, true, true, true, false, false, false, false, false] rfl rfl (by kernel_rfl) (fun _ _ _ h => h) (Or.inl ⟨by rfl, ?_⟩) hHeld ?_ ?_
        rotate_left
        · rintro w' ⟨s0, s1, s2⟩
          go_simp
          with_reducible rfl
        rotate_left
        · simp only [Act.put, List.setIfInBounds_toArray, List.set_cons_zero, List.set_cons_succ, i64_w, i32_w]
          rfl
        refine pure_ (i := 7) (N := some 67) (v := ?_) (a' := ?_) #[true, true, true, true, true, true, true, true, false, false, false, false] rfl rfl (by kernel_rfl) (fun _ _ _ h => h) (Or.inl ⟨by rfl, ?_⟩) ?_ ?_
        rotate_left
        · intro w'
          go_simp
          with_reducible rfl
        rotate_left
        · simp only [Act.put, List.setIfInBounds_toArray, List.set_cons_zero, List.set_cons_succ, i64_w, i32_w]
          rfl
        refine pure_ (i := 8) (N := some 68) (v := ?_) (a' := ?_) #[true, true, true, true, true, true, true, true, true, false, false, false] rfl rfl (by kernel_rfl) (fun _ _ _ h => h) (Or.inl ⟨by rfl, ?_⟩) ?_ ?_
        rotate_left
        · intro w'
          go_simp
          with_reducible rfl
        rotate_left
        · simp only [Act.put, List.setIfInBounds_toArray, List.set_cons_zero, List.set_cons_succ, i64_w, i32_w]
          rfl
        refine pure_ (i := 9) (N := some 69) (v := ?_) (a' := ?_) #[true, true, true, true, true, true, true, true, true, true, false, false] rfl rfl (by kernel_rfl) (fun _ _ _ h => h) (Or.inl ⟨by rfl, ?_⟩) ?_ ?_
        rotate_left
        · intro w'
          go_simp
          with_reducible rfl
        rotate_left
        · simp only [Act.put, List.setIfInBounds_toArray, List.set_cons_zero, List.set_cons_succ, i64_w, i32_w]
          rfl
        refine take_ (i := 10) (N := some 70) (v := ?_) (a' := ?_) #[true, true, true, true, true, true, true, true, true, true, true, false] rfl rfl (by kernel_rfl) (fun _ _ _ h => h) (Or.inl ⟨by rfl, ?_⟩) hHeld ?_ ?_
        rotate_left
        · rintro w' ⟨s0, s1, s2⟩
          go_simp
          with_reducible rfl
        rotate_left
        · simp only [Act.put, List.setIfInBounds_toArray, List.set_cons_zero, List.set_cons_succ, i64_w, i32_w]
          rfl
        refine pure_ (i := 11) (N := some 71) (v := ?_) (a' := ?_) #[true, true, true, true, true, true, true, true, true, true, true, true] rfl rfl (by kernel_rfl) (fun _ _ _ h => h) (Or.inl ⟨by rfl, ?_⟩) ?_ ?_
        rotate_left
        · intro w'
          go_simp
          with_reducible rfl
        rotate_left
        · simp only [Act.put, List.setIfInBounds_toArray, List.set_cons_zero, List.set_cons_succ, i64_w, i32_w]
          rfl
        refine done_ (by kernel_rfl) ?_
        have RWx := Aside0.mk RW.out.drew
        have BLx := Aside0.mk BL.out.drew
        clear hHeld c0 c1 ea HSr RW BL
        generalize wr.drew = wx at RWx BLx ⊢
        go_wp2
        go_roundg (ks.length - (j + 1))
        case measure => omega
        case rel => exact ⟨j + 1, k2, b2, by omega, by omega, by rw [EW.out], RWx.out, BLx.out, ⟨LD.out⟩, ⟨HL2.out⟩, ⟨by have := HLJ.out; omega⟩, ⟨HB2.out⟩⟩
    · have hltz : ¬ (j : Int) < (ks.length : Int) := by omega
      have hjj : j = ks.length := by omega
      have HFRj : Aside0 (FR k2 b2 = cut (FR ks bs) t N) := ⟨by rw [HFR.out, hjj]; exact low_all HS4.out.len HTT.out HLOW.out⟩
      have LJ := Aside0.mk (show k2.length ≤ ks.length by have := HLJ.out; omega)
      clear hjj hlt hj hg
      have f1 := HSr.out.f1
      have c2 := HSr.out.c2
      have f2 := HSr.out.f2
      go_wp2
      go_ret2
      have hBt : Bt w4 wr base (.slice Aa ks.length ca) (.slice Ab bs.length cb) (.slice A7 k2.length c7) (.slice A8 b2.length c8) k2 b2 :=
        ⟨Kd.R_lower RW.out.oa HS4.out.bz, Kd.R_lower RW.out.ob HS4.out.bz, Only.of_below BL.out, fun k hk => Or.inr (row_ge RW.out.oa k hk), fun k hk => Or.inr (row_ge RW.out.ob k hk), RW.out.ab,
          fun k hk => hk.elim (fun h => ⟨row_lt HS4.out.ra k h, row_ge HS4.out.ra k h⟩) (fun h => ⟨row_lt HS4.out.rb_ k h, row_ge HS4.out.rb_ k h⟩), HS4.out.bz⟩
      have hclose := HS4.out.close hBt HL2.out HB2.out
      unfold RNextPost
      rw [HE.out]
      simp only [HLEN.out, ← HTT.out]
      have hws : w.heap.size ≤ w4.heap.size := O04.out.size
      refine ⟨.slice A3 N c3, rfl, ?_, k2, b2, _, _, hclose, HFRj.out, LJ.out, fun k hk => Or.inr (Nat.le_trans hws (row_ge RW.out.oa k hk)), fun k hk => Or.inr (Nat.le_trans hws (row_ge RW.out.ob k hk)), ?_⟩
      · refine row_keep HM4.out (fun k hk => ?_)
        have h1 := row_ge HM4.out k hk
        have h2 := row_lt HM4.out k hk
        have h3 := HS.out.lt
        have hne : k ≠ rb := by omega
        exact (Below.heap_setCell _ ⟨rb, 2, none⟩ _ k hne).trans ((Below.heap_setCell wr ⟨rb, 1, none⟩ _ k hne).trans (BL.out.block k h2))
      · exact (((O04.out.imp (fun k _ hk => (Or.inl hk : k = rb ∨ own2 _ _ k))).trans (Only.of_below BL.out)).setCell (ad := ⟨rb, 1, none⟩) (Or.inl rfl) _).setCell (ad := ⟨rb, 2, none⟩) (Or.inl rfl) _
theorem rnext_calls {w : World} {base rb : Nat} {t : Int} {ks bs : List Int} {va vb : Value} (hS : Sr w base rb t ks bs va vb) (hk : ks.length ≤ 1000000) (ht : 0 ≤ t) (ht' : t ≤ 274877906944) (hlow : ∀ k, k < t → FR ks bs k = none) :
    Calls Try.prog 23 #[.pointer (some ⟨rb, 0, none⟩)] w fun e w' => RNextPost w w' base rb t ks bs va vb e := by
  by_cases h4 : (front (FR ks bs) t 4).length < 4
  · exact rnext_short hS hk ht (by omega) h4
  by_cases h5 : mlen (front (FR ks bs) t 4) > 2004
  · exact rnext_long hS hk ht ht' h4 h5
  by_cases h6 : (front (FR ks bs) t (mlen (front (FR ks bs) t 4)).toNat).length < (mlen (front (FR ks bs) t 4)).toNat
  · exact rnext_cut hS hk ht ht' h4 h5 h6
  · exact rnext_ok hS hk ht ht' hlow h4 h5 h6
end Go.Proofs.Ytbcleckapamicaa.Rst
