/- StreamActs: its function, walked by hand: at bytes it answers true. Written by mk-acts.py (a program of this session). -/
import Derived.Test.YtbcleckapamicaaAct0
namespace Go.Proofs.Ytbcleckapamicaa.QSa
open Go Go.RowKit Go.Proofs.YtbcleckapamicaaW.PrintWords Go.Proofs.YtbcleckapamicaaW.PrintLast Go.Proofs.YtbcleckapamicaaW.PrintMore
open Go.Proofs.Ytbcleckapamicaa.QSs (shibbolethlaw13_same.f shibbolethlaw13_same.calls shibbolethlaw13_same.l0)
open Go.Proofs.Ytbcleckapamicaa.Stm (Bytes bytes_rd Only info5 wf64 St Tr FB putE putF nextR cut cut_zero front_le After NextPost awake_calls next_calls put_calls taken_calls)
open Go.Proofs.Ytbcleckapamicaa.Rst
open Go.Proofs.Ytbcleckapamicaa.Act
set_option linter.unusedVariables false
set_option linter.unusedSimpArgs false

theorem low_cut {F : Stm.Fn} {t : Int} (h : ∀ k, k < t → F k = none) (N : Nat) : ∀ k, k < t + N → cut F t N k = none := by
  intro k hk
  unfold Stm.cut
  by_cases c : t ≤ k ∧ k < t + N
  · rw [if_pos c]
  · rw [if_neg c]; exact h k (by omega)
theorem low_put {F : Stm.Fn} {t : Int} (h : ∀ k, k < t → F k = none) (p : Int) (l : List Int) : ∀ k, k < t → putF F t p l k = none := by
  intro k hk
  unfold Stm.putF
  split
  · unfold Stm.stored
    rw [if_neg (by omega)]
    exact h k hk
  · exact h k hk
theorem nextR_le (F : Stm.Fn) (t : Int) : (nextR F t).1.length ≤ 2004 := by
  unfold Stm.nextR
  split
  · simp
  · split
    · simp
    · split
      · simp
      · have := front_le F (Stm.mlen (Stm.front F t 4)).toNat t
        simp only []
        omega
theorem same_l (l : List Int) (hl : l.length ≤ 9223372036854775806) : ∀ (d i k : Nat), i + d = l.length → d < k → shibbolethlaw13_same.l0 k l l (i : Int) = some true := by
  intro d
  induction d with
  | zero =>
    intro i k hi hk
    cases k with
    | zero => omega
    | succ k => rw [shibbolethlaw13_same.l0, if_neg (by omega)]
  | succ d ih =>
    intro i k hi hk
    cases k with
    | zero => omega
    | succ k =>
      rw [shibbolethlaw13_same.l0, if_pos (by omega), if_pos (by omega), if_pos (by omega)]
      first
        | (rw [if_pos rfl, show wrap64 ((i : Int) + 1) = ((i + 1 : Nat) : Int) from by unfold wrap64; omega]; exact ih (i + 1) k (by omega) (by omega))
        | (simp only [ne_eq, not_true_eq_false, if_false, if_true]; rw [show wrap64 ((i : Int) + 1) = ((i + 1 : Nat) : Int) from by unfold wrap64; omega]; exact ih (i + 1) k (by omega) (by omega))
theorem same_f (l : List Int) (hl : l.length ≤ 9223372036854775806) (k : Nat) (hk : l.length < k) : shibbolethlaw13_same.f k l l = some true := by
  unfold shibbolethlaw13_same.f
  first
    | (rw [if_pos rfl]; exact same_l l hl l.length 0 k (by omega) hk)
    | (simp only [ne_eq, not_true_eq_false, if_false, if_true]; exact same_l l hl l.length 0 k (by omega) hk)

theorem c_lt {w : World} {A : Option Addr} {l : List Int} (hC : Kd.C (Kd.int .u8) w A l.length l) (hl : 0 < l.length) (ad : Addr) (e : A = some ad) : ad.block < w.heap.size := by
  obtain ⟨ad', e', hc⟩ := Kd.at_int hC 0 (by omega) (by omega)
  rw [e] at e'
  injection e' with e'
  subst e'
  have hlt := World.block_lt_of_cell? w _ hc
  unfold Addr.add at hlt
  split at hlt <;> exact hlt

/-! ### shibbolethlaw13_StreamActs: function 6 -/
def shibbolethlaw13_StreamActs.f (l0 : List (Bool × Int × List Int)) : Option Bool := if (∀ x ∈ l0, Bytes x.2.2) then some true else none
set_option maxHeartbeats 2000000 in
set_option maxRecDepth 100000 in
theorem shibbolethlaw13_StreamActs.calls (A0 : Option Addr) (c0 : Nat) (l0 : List (Bool × Int × List Int)) (r : Bool) (w : World) (hr0 : Kd.C KA w A0 l0.length l0) (hc0 : l0.length ≤ c0) (h : shibbolethlaw13_StreamActs.f l0 = some r) :
    Calls Try.prog 6 #[.slice A0 l0.length c0] w fun e w' => e = .returned (.bool r) ∧ Below w.heap.size w w' := by
  obtain ⟨hB, rfl⟩ : (∀ x ∈ l0, Bytes x.2.2) ∧ r = true := by
    unfold shibbolethlaw13_StreamActs.f at h
    split at h
    · rename_i q; exact ⟨q, (Option.some.inj h).symm⟩
    · cases h
  clear h
  have HR := Aside0.mk hr0
  have HB := Aside0.mk hB
  clear hr0 hc0 hB
  by_cases b1 : 40 < (l0.length : Int)
  · have d1 : decide (40 < (l0.length : Int)) = true := decide_eq_true b1
    have d1' : decide (40 < l0.length) = true := decide_eq_true (by omega)
    clear b1
    go_enter Try.func6, Try.ntmps6
    go_wp2
    go_ret
    exact ⟨rfl, Below.refl _ _⟩
  have d1 : decide (40 < (l0.length : Int)) = false := decide_eq_false b1
  have d1' : decide (40 < l0.length) = false := decide_eq_false (by omega)
  have LEN := Aside0.mk (show l0.length ≤ 40 by omega)
  clear b1
  have BO := Aside0.mk (Both.new w)
  have EB : ∀ j, j < l0.length → ∀ b p d, l0[j]? = some (b, p, d) → Bytes d := fun j hj b p d e => HB.out _ (List.mem_of_getElem? e)
  have HBY := Aside0.mk EB
  clear EB HB
  go_enter Try.func6, Try.ntmps6
  go_wp2
  clear d1 d1'
  generalize hwL : ((w.alloc (.cells #[.int .i64 0, .map none] 42)).alloc (.cells #[.int .i64 0, .slice none 0 0, .slice none 0 0] 46)) = wL at BO ⊢
  clear hwL
  generalize hsb : w.heap.size = sb at BO ⊢
  generalize hrb : sb + 1 = rb at BO ⊢
  have HSB := Aside0.mk hsb
  clear hsb hrb
  go_loopg [5] l0.length (fun gg v5 wr => ∃ (j : Nat) (m : Option Nat) (t : Int) (F : Stm.Fn) (n : Nat) (ks bs : List Int) (va vb : Value), j ≤ l0.length ∧ l0.length - j ≤ gg ∧ v5 = .int .i64 j ∧ Both w wr sb rb m t F n ks bs va vb ∧ Aside0 (n ≤ 60 * j) ∧ Aside0 (ks.length ≤ 60 * j) ∧ Aside0 (t ≤ 2004 * j))
  case atStart => exact ⟨0, none, 0, Stm.F0, 0, [], [], .slice none 0 0, .slice none 0 0, Nat.zero_le _, by omega, rfl, BO.out, ⟨by omega⟩, ⟨by simp⟩, ⟨by omega⟩⟩
  case round =>
    obtain ⟨j, m, t, F, n, ks, bs, va, vb, hj, hg, rfl, hBo, HN, HK, HTB⟩ := hrel
    have BR := Aside0.mk hBo
    clear hBo BO
    by_cases hlt : j < l0.length
    · have hltz : (j : Int) < (l0.length : Int) := by omega
      obtain ⟨ad, b, p, d, A2, cd, eb, eo, eA, el, hae, hc0, hc1, hc2, hcd, hCd⟩ := act_cells HR.out j hlt
      subst eA
      have BD := Aside0.mk (HBY.out j hlt b p d el)
      have CD0 := Aside0.mk hCd
      have HC1 := Aside0.mk hc1
      have HC2 := Aside0.mk hc2
      have LTE := Aside0.mk (World.block_lt_of_cell? w _ hc2)
      have hSH : ∀ {W' : World}, Below w.heap.size w W' → (W'.cell? ⟨eb, eo + 1, none⟩ = some (.int .i64 p) ∧ W'.cell? ⟨eb, eo + 2, none⟩ = some (.slice A2 d.length cd)) := fun hb => ⟨pw_cell_below hb HC1.out, pw_cell_below hb HC2.out⟩
      have k0 := pw_cell_below BR.out.tr.bl hc0
      have k1 := pw_cell_below BR.out.tr.bl hc1
      have k2 := pw_cell_below BR.out.tr.bl hc2
      have EW := Aside0.mk (show wrap64 ((j : Int) + 1) = ((j + 1 : Nat) : Int) by have := LEN.out; unfold wrap64; omega)
      have TB_ := Aside0.mk (show t ≤ 80160 by have := HTB.out; have := LEN.out; omega)
      have NB_ := Aside0.mk (show n ≤ 2400 by have := HN.out; have := LEN.out; omega)
      have KB_ := Aside0.mk (show ks.length ≤ 2400 by have := HK.out; have := LEN.out; omega)
      clear hc0 hc1 hc2 hCd hcd el
      by_cases b2 : 60 < (d.length : Int)
      · have d2 : decide (60 < (d.length : Int)) = true := decide_eq_true b2
        have d2' : decide (60 < d.length) = true := decide_eq_true (by omega)
        clear b2
        go_wp2
        go_ret
        exact ⟨rfl, BR.out.tr.bl⟩
      have d2 : decide (60 < (d.length : Int)) = false := decide_eq_false b2
      have d2' : decide (60 < d.length) = false := decide_eq_false (by omega)
      have LD := Aside0.mk (show d.length ≤ 60 by omega)
      clear b2
      cases b
      · go_wp2
        clear d2 d2' k0
        refine start_ (n := 27) (S := fun w' => w'.cell? ⟨eb, eo + 1, none⟩ = some (.int .i64 p) ∧ w'.cell? ⟨eb, eo + 2, none⟩ = some (.slice A2 d.length cd)) (ds := []) #[false, false, false, false, false, false, false, false, false, false, false, false, false, false, false, false, false, false, false, false, false, false, false, false, false, false, false] (by kernel_rfl) rfl rfl ⟨k1, k2⟩ (fun hHeld => ?_)
        refine pure_ (i := 0) (N := some 57) (v := ?_) (a' := ?_) #[true, false, false, false, false, false, false, false, false, false, false, false, false, false, false, false, false, false, false, false, false, false, false, false, false, false, false] rfl rfl (by kernel_rfl) (fun _ _ _ h => h) (Or.inl ⟨by rfl, ?_⟩) ?_ ?_
        rotate_left
        · intro w'
          go_simp
          with_reducible rfl
        rotate_left
        · simp only [Act.put, List.setIfInBounds_toArray, List.set_cons_zero, List.set_cons_succ, i64_w, i32_w]
          rfl
        refine pure_ (i := 1) (N := some 58) (v := ?_) (a' := ?_) #[true, true, false, false, false, false, false, false, false, false, false, false, false, false, false, false, false, false, false, false, false, false, false, false, false, false, false] rfl rfl (by kernel_rfl) (fun _ _ _ h => h) (Or.inl ⟨by rfl, ?_⟩) ?_ ?_
        rotate_left
        · intro w'
          go_simp
          with_reducible rfl
        rotate_left
        · simp only [Act.put, List.setIfInBounds_toArray, List.set_cons_zero, List.set_cons_succ, i64_w, i32_w]
          rfl
        refine pure_ (i := 2) (N := some 59) (v := ?_) (a' := ?_) #[true, true, true, false, false, false, false, false, false, false, false, false, false, false, false, false, false, false, false, false, false, false, false, false, false, false, false] rfl rfl (by kernel_rfl) (fun _ _ _ h => h) (Or.inl ⟨by rfl, ?_⟩) ?_ ?_
        rotate_left
        · intro w'
          go_simp
          with_reducible rfl
        rotate_left
        · simp only [Act.put, List.setIfInBounds_toArray, List.set_cons_zero, List.set_cons_succ, i64_w, i32_w]
          rfl
        refine pure_ (i := 3) (N := some 60) (v := ?_) (a' := ?_) #[true, true, true, true, false, false, false, false, false, false, false, false, false, false, false, false, false, false, false, false, false, false, false, false, false, false, false] rfl rfl (by kernel_rfl) (fun _ _ _ h => h) (Or.inl ⟨by rfl, ?_⟩) ?_ ?_
        rotate_left
        · intro w'
          go_simp
          with_reducible rfl
        rotate_left
        · simp only [Act.put, List.setIfInBounds_toArray, List.set_cons_zero, List.set_cons_succ, i64_w, i32_w]
          rfl
        refine pure_ (i := 4) (N := some 61) (v := ?_) (a' := ?_) #[true, true, true, true, true, false, false, false, false, false, false, false, false, false, false, false, false, false, false, false, false, false, false, false, false, false, false] rfl rfl (by kernel_rfl) (fun _ _ _ h => h) (Or.inl ⟨by rfl, ?_⟩) ?_ ?_
        rotate_left
        · intro w'
          go_simp
          with_reducible rfl
        rotate_left
        · simp only [Act.put, List.setIfInBounds_toArray, List.set_cons_zero, List.set_cons_succ, i64_w, i32_w]
          rfl
        refine take_ (i := 5) (N := some 62) (v := ?_) (a' := ?_) #[true, true, true, true, true, true, false, false, false, false, false, false, false, false, false, false, false, false, false, false, false, false, false, false, false, false, false] rfl rfl (by kernel_rfl) (fun _ _ _ h => h) (Or.inl ⟨by rfl, ?_⟩) hHeld ?_ ?_
        rotate_left
        · rintro w' ⟨s1, s2⟩
          go_simp
          with_reducible rfl
        rotate_left
        · simp only [Act.put, List.setIfInBounds_toArray, List.set_cons_zero, List.set_cons_succ, i64_w, i32_w]
          rfl
        refine pure_ (i := 7) (N := some 64) (v := ?_) (a' := ?_) #[true, true, true, true, true, true, false, true, false, false, false, false, false, false, false, false, false, false, false, false, false, false, false, false, false, false, false] rfl rfl (by kernel_rfl) (fun _ _ _ h => h) (Or.inl ⟨by rfl, ?_⟩) ?_ ?_
        rotate_left
        · intro w'
          go_simp
          with_reducible rfl
        rotate_left
        · simp only [Act.put, List.setIfInBounds_toArray, List.set_cons_zero, List.set_cons_succ, i64_w, i32_w]
          rfl
        refine pure_ (i := 8) (N := some 65) (v := ?_) (a' := ?_) #[true, true, true, true, true, true, false, true, true, false, false, false, false, false, false, false, false, false, false, false, false, false, false, false, false, false, false] rfl rfl (by kernel_rfl) (fun _ _ _ h => h) (Or.inl ⟨by rfl, ?_⟩) ?_ ?_
        rotate_left
        · intro w'
          go_simp
          with_reducible rfl
        rotate_left
        · simp only [Act.put, List.setIfInBounds_toArray, List.set_cons_zero, List.set_cons_succ, i64_w, i32_w]
          rfl
        refine pure_ (i := 9) (N := some 66) (v := ?_) (a' := ?_) #[true, true, true, true, true, true, false, true, true, true, false, false, false, false, false, false, false, false, false, false, false, false, false, false, false, false, false] rfl rfl (by kernel_rfl) (fun _ _ _ h => h) (Or.inl ⟨by rfl, ?_⟩) ?_ ?_
        rotate_left
        · intro w'
          go_simp
          with_reducible rfl
        rotate_left
        · simp only [Act.put, List.setIfInBounds_toArray, List.set_cons_zero, List.set_cons_succ, i64_w, i32_w]
          rfl
        refine pure_ (i := 10) (N := some 67) (v := ?_) (a' := ?_) #[true, true, true, true, true, true, false, true, true, true, true, false, false, false, false, false, false, false, false, false, false, false, false, false, false, false, false] rfl rfl (by kernel_rfl) (fun _ _ _ h => h) (Or.inl ⟨by rfl, ?_⟩) ?_ ?_
        rotate_left
        · intro w'
          go_simp
          with_reducible rfl
        rotate_left
        · simp only [Act.put, List.setIfInBounds_toArray, List.set_cons_zero, List.set_cons_succ, i64_w, i32_w]
          rfl
        refine take_ (i := 11) (N := some 68) (v := ?_) (a' := ?_) #[true, true, true, true, true, true, false, true, true, true, true, true, false, false, false, false, false, false, false, false, false, false, false, false, false, false, false] rfl rfl (by kernel_rfl) (fun _ _ _ h => h) (Or.inl ⟨by rfl, ?_⟩) hHeld ?_ ?_
        rotate_left
        · rintro w' ⟨s1, s2⟩
          go_simp
          with_reducible rfl
        rotate_left
        · simp only [Act.put, List.setIfInBounds_toArray, List.set_cons_zero, List.set_cons_succ, i64_w, i32_w]
          rfl
        refine pure_ (i := 14) (N := some 71) (v := ?_) (a' := ?_) #[true, true, true, true, true, true, false, true, true, true, true, true, false, false, true, false, false, false, false, false, false, false, false, false, false, false, false] rfl rfl (by kernel_rfl) (fun _ _ _ h => h) (Or.inl ⟨by rfl, ?_⟩) ?_ ?_
        rotate_left
        · intro w'
          go_simp
          with_reducible rfl
        rotate_left
        · simp only [Act.put, List.setIfInBounds_toArray, List.set_cons_zero, List.set_cons_succ, i64_w, i32_w]
          rfl
        refine pure_ (i := 15) (N := some 72) (v := ?_) (a' := ?_) #[true, true, true, true, true, true, false, true, true, true, true, true, false, false, true, true, false, false, false, false, false, false, false, false, false, false, false] rfl rfl (by kernel_rfl) (fun _ _ _ h => h) (Or.inl ⟨by rfl, ?_⟩) ?_ ?_
        rotate_left
        · intro w'
          go_simp
          with_reducible rfl
        rotate_left
        · simp only [Act.put, List.setIfInBounds_toArray, List.set_cons_zero, List.set_cons_succ, i64_w, i32_w]
          rfl
        refine pure_ (i := 16) (N := some 73) (v := ?_) (a' := ?_) #[true, true, true, true, true, true, false, true, true, true, true, true, false, false, true, true, true, false, false, false, false, false, false, false, false, false, false] rfl rfl (by kernel_rfl) (fun _ _ _ h => h) (Or.inl ⟨by rfl, ?_⟩) ?_ ?_
        rotate_left
        · intro w'
          go_simp
          with_reducible rfl
        rotate_left
        · simp only [Act.put, List.setIfInBounds_toArray, List.set_cons_zero, List.set_cons_succ, i64_w, i32_w]
          rfl
        refine pure_ (i := 17) (N := some 74) (v := ?_) (a' := ?_) #[true, true, true, true, true, true, false, true, true, true, true, true, false, false, true, true, true, true, false, false, false, false, false, false, false, false, false] rfl rfl (by kernel_rfl) (fun _ _ _ h => h) (Or.inl ⟨by rfl, ?_⟩) ?_ ?_
        rotate_left
        · intro w'
          go_simp
          with_reducible rfl
        rotate_left
        · simp only [Act.put, List.setIfInBounds_toArray, List.set_cons_zero, List.set_cons_succ, i64_w, i32_w]
          rfl
        refine pure_ (i := 18) (N := some 75) (v := ?_) (a' := ?_) #[true, true, true, true, true, true, false, true, true, true, true, true, false, false, true, true, true, true, true, false, false, false, false, false, false, false, false] rfl rfl (by kernel_rfl) (fun _ _ _ h => h) (Or.inl ⟨by rfl, ?_⟩) ?_ ?_
        rotate_left
        · intro w'
          go_simp
          with_reducible rfl
        rotate_left
        · simp only [Act.put, List.setIfInBounds_toArray, List.set_cons_zero, List.set_cons_succ, i64_w, i32_w]
          rfl
        refine take_ (i := 19) (N := some 76) (v := ?_) (a' := ?_) #[true, true, true, true, true, true, false, true, true, true, true, true, false, false, true, true, true, true, true, true, false, false, false, false, false, false, false] rfl rfl (by kernel_rfl) (fun _ _ _ h => h) (Or.inl ⟨by rfl, ?_⟩) hHeld ?_ ?_
        rotate_left
        · rintro w' ⟨s1, s2⟩
          go_simp
          with_reducible rfl
        rotate_left
        · simp only [Act.put, List.setIfInBounds_toArray, List.set_cons_zero, List.set_cons_succ, i64_w, i32_w]
          rfl
        refine pure_ (i := 20) (N := some 77) (v := ?_) (a' := ?_) #[true, true, true, true, true, true, false, true, true, true, true, true, false, false, true, true, true, true, true, true, true, false, false, false, false, false, false] rfl rfl (by kernel_rfl) (fun _ _ _ h => h) (Or.inl ⟨by rfl, ?_⟩) ?_ ?_
        rotate_left
        · intro w'
          go_simp
          with_reducible rfl
        rotate_left
        · simp only [Act.put, List.setIfInBounds_toArray, List.set_cons_zero, List.set_cons_succ, i64_w, i32_w]
          rfl
        refine pure_ (i := 21) (N := some 78) (v := ?_) (a' := ?_) #[true, true, true, true, true, true, false, true, true, true, true, true, false, false, true, true, true, true, true, true, true, true, false, false, false, false, false] rfl rfl (by kernel_rfl) (fun _ _ _ h => h) (Or.inl ⟨by rfl, ?_⟩) ?_ ?_
        rotate_left
        · intro w'
          go_simp
          with_reducible rfl
        rotate_left
        · simp only [Act.put, List.setIfInBounds_toArray, List.set_cons_zero, List.set_cons_succ, i64_w, i32_w]
          rfl
        refine pure_ (i := 22) (N := some 79) (v := ?_) (a' := ?_) #[true, true, true, true, true, true, false, true, true, true, true, true, false, false, true, true, true, true, true, true, true, true, true, false, false, false, false] rfl rfl (by kernel_rfl) (fun _ _ _ h => h) (Or.inl ⟨by rfl, ?_⟩) ?_ ?_
        rotate_left
        · intro w'
          go_simp
          with_reducible rfl
        rotate_left
        · simp only [Act.put, List.setIfInBounds_toArray, List.set_cons_zero, List.set_cons_succ, i64_w, i32_w]
          rfl
        refine pure_ (i := 23) (N := some 80) (v := ?_) (a' := ?_) #[true, true, true, true, true, true, false, true, true, true, true, true, false, false, true, true, true, true, true, true, true, true, true, true, false, false, false] rfl rfl (by kernel_rfl) (fun _ _ _ h => h) (Or.inl ⟨by rfl, ?_⟩) ?_ ?_
        rotate_left
        · intro w'
          go_simp
          with_reducible rfl
        rotate_left
        · simp only [Act.put, List.setIfInBounds_toArray, List.set_cons_zero, List.set_cons_succ, i64_w, i32_w]
          rfl
        refine take_ (i := 24) (N := some 81) (v := ?_) (a' := ?_) #[true, true, true, true, true, true, false, true, true, true, true, true, false, false, true, true, true, true, true, true, true, true, true, true, true, false, false] rfl rfl (by kernel_rfl) (fun _ _ _ h => h) (Or.inl ⟨by rfl, ?_⟩) hHeld ?_ ?_
        rotate_left
        · rintro w' ⟨s1, s2⟩
          go_simp
          with_reducible rfl
        rotate_left
        · simp only [Act.put, List.setIfInBounds_toArray, List.set_cons_zero, List.set_cons_succ, i64_w, i32_w]
          rfl
        have BRd := Aside0.mk (BR.out.below (Below.refl _ _).drew)
        have BLd := Aside0.mk BR.out.tr.bl.drew
        clear hHeld k1 k2 BR
        generalize wr.drew = wd at BRd BLd ⊢
        have CD := Aside0.mk (Kd.C_below CD0.out BLd.out)
        refine one_ (i := 6) (N := some 63) #[true, true, true, true, true, true, true, true, true, true, true, true, false, false, true, true, true, true, true, true, true, true, true, true, true, false, false] rfl rfl (by kernel_rfl) (by decide) (fun K hK => ?_)
        refine Kd.R_lit_step (Kd.int .u8) (w0 := wd) wd.heap.size 5 (by rfl) (N := 63) rfl (xs := ([] : List Int)) (inner := []) (ok := fun _ => True) (okp := fun _ => True) ?_ (Reps.none _ _) (fun _ hk => hk) trivial (Below.refl _ _) (Nat.le_refl _) (by simp) ?_
        · first | (go_simp; done) | (go_simp; rfl)
        intro v6 w6 ho hb hg hat
        clear hg hat
        have O6 := Aside0.mk ho
        have B6 := Aside0.mk hb
        have BW := Aside0.mk (below_step BLd.out hb)
        clear ho hb
        refine hK.out _ _ (hSH BW.out) (fun hHeld => ?_)
        clear hK K
        refine norm_ (a' := ?_) ?_ ?_
        rotate_left
        · show Act.put _ (some 63) _ = _
          simp only [Act.put, List.setIfInBounds_toArray, List.set_cons_zero, List.set_cons_succ, i64_w, i32_w]
          rfl
        refine one_ (i := 12) (N := some 69) #[true, true, true, true, true, true, true, true, true, true, true, true, true, false, true, true, true, true, true, true, true, true, true, true, true, false, false] rfl rfl (by kernel_rfl) (by decide) (fun K hK => ?_)
        refine Kd.R_append_rows_step (Kd.int .u8) (w0 := wd) wd.heap.size (by rfl) (.tmp 63) (.tmp 68) 44 5 (.int .u8 0) 1 rfl Try.underlying44 info5 rfl (by decide) (by omega) v6 ([] : List Int) d _ _ _ (fun _ => True) (fun _ => False) rfl rfl O6.out (Kd.C_below CD.out B6.out) (fun _ _ h => h) (fun _ h => h.elim) (fun _ _ => trivial) B6.out B6.out.size (by have := LD.out; simp; omega) ?_
        intro v7 w7 ho hb hg hat
        clear hg hat
        rw [List.nil_append] at ho
        have SP7 := Aside0.mk (Kd.R_base ho)
        obtain ⟨A7, c7, rfl, l7, k7⟩ := Kd.R_reads ho
        have K7 := Aside0.mk k7
        have BR7 := Aside0.mk (BRd.out.below hb)
        clear BW
        have BW := Aside0.mk (below_step BLd.out hb)
        clear ho hb O6 B6 k7 l7
        refine hK.out _ _ (hSH BW.out) (fun hHeld => ?_)
        clear hK K
        refine norm_ (a' := ?_) ?_ ?_
        rotate_left
        · show Act.put _ (some 69) _ = _
          simp only [Act.put, List.setIfInBounds_toArray, List.set_cons_zero, List.set_cons_succ, i64_w, i32_w]
          rfl
        refine one_ (i := 13) (N := some 70) #[true, true, true, true, true, true, true, true, true, true, true, true, true, true, true, true, true, true, true, true, true, true, true, true, true, false, false] rfl rfl (by kernel_rfl) (by decide) (fun K hK => ?_)
        refine goes_ Try.func25 (by kernel_rfl) rfl #[.pointer (some ⟨sb, 0, none⟩), .int .i64 p, .slice A7 d.length c7] (by rfl) rfl rfl (by (try simp only [List.map_toArray, List.map_cons, List.map_nil]); first | done | rfl) ?_
        refine (put_calls BR7.out.tr.st A7 c7 d p K7.out BR7.out.t0 (by have := TB_.out; omega) (by have := LD.out; omega) BD.out (fun ad_ e_ q_ => ?sep) (by have := NB_.out; have := LD.out; omega)).mono ?_
        case sep => (have hge_ := SP7.out ad_.block (by rw [e_]; simp [Value.ownBlock]); rcases q_ with q_ | q_; (have := BRd.out.tr.st.lt; omega); (have h_ := BRd.out.tr.st; rw [← q_] at h_; have := h_.mlt; omega))
        rintro e_ w8 ⟨rfl, hA⟩
        refine ⟨_, rfl, ?_⟩
        obtain ⟨m8, hH⟩ := BR7.out.half hA
        have HH := Aside0.mk hH
        clear BW
        have BW := Aside0.mk hH.tr.bl
        clear hA hH K7 SP7
        refine hK.out _ _ (hSH BW.out) (fun hHeld => ?_)
        clear hK K
        refine norm_ (a' := ?_) ?_ ?_
        rotate_left
        · show Act.put _ (some 70) _ = _
          simp only [Act.put, List.setIfInBounds_toArray, List.set_cons_zero, List.set_cons_succ, i64_w, i32_w]
          rfl
        refine one_ (i := 25) (N := some 82) #[true, true, true, true, true, true, true, true, true, true, true, true, true, true, true, true, true, true, true, true, true, true, true, true, true, true, false] rfl rfl (by kernel_rfl) (by decide) (fun K hK => ?_)
        refine goes_ Try.func26 (by kernel_rfl) rfl #[.pointer (some ⟨rb, 0, none⟩), .int .i64 p, .slice A2 d.length cd] (by rfl) rfl rfl (by (try simp only [List.map_toArray, List.map_cons, List.map_nil]); first | done | rfl) ?_
        refine (rput_calls HH.out.sr A2 cd d p (Kd.C_below CD0.out BW.out) BD.out BRd.out.t0 (by have := TB_.out; omega) (by have := LD.out; omega) (by have := KB_.out; have := LD.out; omega) (fun hp_ ad_ e_ q_ => ?sep)).mono ?_
        case sep => (have hlt_ := c_lt CD0.out hp_ ad_ e_; rcases q_ with q_ | q_ | q_; (have := HH.out.sr.lo; omega); (have := row_ge HH.out.sr.ra _ q_; omega); (have := row_ge HH.out.sr.rb_ _ q_; omega))
        rw [HH.out.fr]
        rintro e_ w9 ⟨rfl, hA2⟩
        refine ⟨_, rfl, ?_⟩
        obtain ⟨ks9, bs9, va9, vb9, hB9, hkl9⟩ := HH.out.both hA2 (low_put BRd.out.low p d) BRd.out.t0
        have BR9 := Aside0.mk hB9
        have KL9 := Aside0.mk hkl9
        clear BW
        have BW := Aside0.mk hB9.tr.bl
        clear hA2 hB9 hkl9 HH
        refine hK.out _ _ (hSH BW.out) (fun hHeld => ?_)
        clear hK K
        refine norm_ (a' := ?_) ?_ ?_
        rotate_left
        · show Act.put _ (some 82) _ = _
          simp only [Act.put, List.setIfInBounds_toArray, List.set_cons_zero, List.set_cons_succ, i64_w, i32_w]
          rfl
        refine pure_ (i := 26) (N := some 83) (v := ?_) (a' := ?_) #[true, true, true, true, true, true, true, true, true, true, true, true, true, true, true, true, true, true, true, true, true, true, true, true, true, true, true] rfl rfl (by kernel_rfl) (fun _ _ _ h => h) (Or.inl ⟨by rfl, ?_⟩) ?_ ?_
        rotate_left
        · intro w'
          go_simp
          with_reducible rfl
        rotate_left
        · simp only [Act.put, List.setIfInBounds_toArray, List.set_cons_zero, List.set_cons_succ, i64_w, i32_w]
          rfl
        refine done_ (by kernel_rfl) ?_
        go_wp2
        have ct := BR9.out.sr.c0
        refine start_ (n := 7) (S := fun w' => w'.cell? ⟨rb, 0, none⟩ = some (.int .i64 t)) (ds := []) #[false, false, false, false, false, false, false] (by kernel_rfl) rfl rfl ct (fun hHeld => ?_)
        refine pure_ (i := 0) (N := some 84) (v := ?_) (a' := ?_) #[true, false, false, false, false, false, false] rfl rfl (by kernel_rfl) (fun _ _ _ h => h) (Or.inl ⟨by rfl, ?_⟩) ?_ ?_
        rotate_left
        · intro w'
          go_simp
          with_reducible rfl
        rotate_left
        · simp only [Act.put, List.setIfInBounds_toArray, List.set_cons_zero, List.set_cons_succ, i64_w, i32_w]
          rfl
        refine pure_ (i := 2) (N := some 86) (v := ?_) (a' := ?_) #[true, false, true, false, false, false, false] rfl rfl (by kernel_rfl) (fun _ _ _ h => h) (Or.inl ⟨by rfl, ?_⟩) ?_ ?_
        rotate_left
        · intro w'
          go_simp
          with_reducible rfl
        rotate_left
        · simp only [Act.put, List.setIfInBounds_toArray, List.set_cons_zero, List.set_cons_succ, i64_w, i32_w]
          rfl
        refine pure_ (i := 3) (N := some 87) (v := ?_) (a' := ?_) #[true, false, true, true, false, false, false] rfl rfl (by kernel_rfl) (fun _ _ _ h => h) (Or.inl ⟨by rfl, ?_⟩) ?_ ?_
        rotate_left
        · intro w'
          go_simp
          with_reducible rfl
        rotate_left
        · simp only [Act.put, List.setIfInBounds_toArray, List.set_cons_zero, List.set_cons_succ, i64_w, i32_w]
          rfl
        refine pure_ (i := 4) (N := some 88) (v := ?_) (a' := ?_) #[true, false, true, true, true, false, false] rfl rfl (by kernel_rfl) (fun _ _ _ h => h) (Or.inl ⟨by rfl, ?_⟩) ?_ ?_
        rotate_left
        · intro w'
          go_simp
          with_reducible rfl
        rotate_left
        · simp only [Act.put, List.setIfInBounds_toArray, List.set_cons_zero, List.set_cons_succ, i64_w, i32_w]
          rfl
        refine take_ (i := 5) (N := some 89) (v := ?_) (a' := ?_) #[true, false, true, true, true, true, false] rfl rfl (by kernel_rfl) (fun _ _ _ h => h) (Or.inl ⟨by rfl, ?_⟩) hHeld ?_ ?_
        rotate_left
        · rintro w' s0
          go_simp
          with_reducible rfl
        rotate_left
        · simp only [Act.put, List.setIfInBounds_toArray, List.set_cons_zero, List.set_cons_succ, i64_w, i32_w]
          rfl
        refine one_ (i := 1) (N := some 85) #[true, true, true, true, true, true, false] rfl rfl (by kernel_rfl) (by decide) (fun K hK => ?_)
        refine goes_ Try.func27 (by kernel_rfl) rfl #[.pointer (some ⟨sb, 0, none⟩)] (by rfl) rfl rfl (by (try simp only [List.map_toArray, List.map_cons, List.map_nil]); first | done | rfl) ?_
        refine (taken_calls BR9.out.tr.st.drew).mono ?_
        rintro e_ wt ⟨rfl, hwt⟩
        replace hwt := hwt.symm
        subst hwt
        refine ⟨_, rfl, ?_⟩
        refine hK.out _ _ BR9.out.sr.c0 (fun hHeld => ?_)
        clear hK K
        refine norm_ (a' := ?_) ?_ ?_
        rotate_left
        · show Act.put _ (some 85) _ = _
          simp only [Act.put, List.setIfInBounds_toArray, List.set_cons_zero, List.set_cons_succ, i64_w, i32_w]
          rfl
        refine pure_ (i := 6) (N := some 90) (v := ?_) (a' := ?_) #[true, true, true, true, true, true, true] rfl rfl (by kernel_rfl) (fun _ _ _ h => h) (Or.inl ⟨by rfl, ?_⟩) ?_ ?_
        rotate_left
        · intro w'
          go_simp
          with_reducible rfl
        rotate_left
        · simp only [Act.put, List.setIfInBounds_toArray, List.set_cons_zero, List.set_cons_succ, i64_w, i32_w]
          rfl
        refine done_ (by kernel_rfl) ?_
        clear hHeld ct
        go_wp2
        go_roundg (l0.length - (j + 1))
        case measure => omega
        case rel => exact ⟨j + 1, m8, t, putF F t p d, n + d.length, ks9, bs9, va9, vb9, by omega, by omega, by rw [EW.out], BR9.out.below (Below.refl _ _).drew, ⟨by have := HN.out; have := LD.out; omega⟩, ⟨by have := HK.out; have := LD.out; have := KL9.out; omega⟩, ⟨by have := HTB.out; omega⟩⟩
      · have LE := Aside0.mk (nextR_le F t)
        have SM := Aside0.mk (same_f (nextR F t).1 (by have := LE.out; omega) 3000 (by have := LE.out; omega))
        have FRE := Aside0.mk BR.out.fr
        have H22 := next_calls BR.out.tr.st BR.out.fb BR.out.t0 (by have := TB_.out; omega)
        go_wp2_with (first
          | (go_at_call 22; refine H22.mono ?_; clear H22; unfold NextPost; rintro e_ w1 ⟨v1, rfl, ho1, hs1, hon1⟩; obtain ⟨m1, hH⟩ := BR.out.half ⟨m, hs1, Or.inl rfl, hon1⟩; obtain ⟨A6, c6, e6⟩ := Kd.R_slice ho1; subst e6; have HO1 := Aside0.mk ho1; have HH := Aside0.mk hH; clear ho1 hs1 hon1 hH)
          | (go_at_call 23; refine (rnext_calls HH.out.sr (by have := KB_.out; omega) BR.out.t0 (by have := TB_.out; omega) (by rw [FRE.out]; exact BR.out.low)).mono ?_; unfold RNextPost; rw [FRE.out]; rintro e_ w9 ⟨v2, rfl, ho2, hA2⟩;
             have hon2 := hA2; obtain ⟨_, _, _, _, _, _, _, _, _, honly⟩ := hon2; have HR1 := Aside0.mk (row_keep HO1.out (fun k hk => honly.block k (row_lt HO1.out k hk) (fun e => by have hge := row_ge HO1.out k hk; rcases e with e | e; (have := BR.out.sr.lt; omega); (have := own_lt2 BR.out.sr k e; omega))));
             obtain ⟨A8, c8, e8⟩ := Kd.R_slice ho2; subst e8; have HR2 := Aside0.mk ho2; obtain ⟨ks9, bs9, va9, vb9, hB9, hkl9⟩ := HH.out.both hA2 (low_cut BR.out.low _) (by have := BR.out.t0; omega); have BRx := Aside0.mk hB9; have KL9 := Aside0.mk hkl9; clear ho2 hA2 honly hB9 hkl9 HH HO1)
          | (go_at_call 24; refine (shibbolethlaw13_same.calls 3000 _ _ (nextR F t).1 _ _ (nextR F t).1 true w9 (Kd.R_reads' HR1.out).2.2 (Kd.R_reads' HR1.out).2.1 (Kd.R_reads' HR2.out).2.2 (Kd.R_reads' HR2.out).2.1 SM.out).mono ?_; rintro e_ w10 ⟨rfl, hd⟩; have BR9 := Aside0.mk (BRx.out.below hd.below); clear hd BRx HR1 HR2))
        clear k0 k1 k2 d2 d2'
        obtain ⟨T9, hT9⟩ : ∃ T9 : Int, t + ((nextR F t).1.length : Nat) = T9 := ⟨_, rfl⟩
        rw [hT9] at BR9
        have TT9 := Aside0.mk hT9
        clear hT9
        have ct := BR9.out.sr.c0
        refine start_ (n := 7) (S := fun w' => w'.cell? ⟨rb, 0, none⟩ = some (.int .i64 T9)) (ds := []) #[false, false, false, false, false, false, false] (by kernel_rfl) rfl rfl ct (fun hHeld => ?_)
        refine pure_ (i := 0) (N := some 84) (v := ?_) (a' := ?_) #[true, false, false, false, false, false, false] rfl rfl (by kernel_rfl) (fun _ _ _ h => h) (Or.inl ⟨by rfl, ?_⟩) ?_ ?_
        rotate_left
        · intro w'
          go_simp
          with_reducible rfl
        rotate_left
        · simp only [Act.put, List.setIfInBounds_toArray, List.set_cons_zero, List.set_cons_succ, i64_w, i32_w]
          rfl
        refine pure_ (i := 2) (N := some 86) (v := ?_) (a' := ?_) #[true, false, true, false, false, false, false] rfl rfl (by kernel_rfl) (fun _ _ _ h => h) (Or.inl ⟨by rfl, ?_⟩) ?_ ?_
        rotate_left
        · intro w'
          go_simp
          with_reducible rfl
        rotate_left
        · simp only [Act.put, List.setIfInBounds_toArray, List.set_cons_zero, List.set_cons_succ, i64_w, i32_w]
          rfl
        refine pure_ (i := 3) (N := some 87) (v := ?_) (a' := ?_) #[true, false, true, true, false, false, false] rfl rfl (by kernel_rfl) (fun _ _ _ h => h) (Or.inl ⟨by rfl, ?_⟩) ?_ ?_
        rotate_left
        · intro w'
          go_simp
          with_reducible rfl
        rotate_left
        · simp only [Act.put, List.setIfInBounds_toArray, List.set_cons_zero, List.set_cons_succ, i64_w, i32_w]
          rfl
        refine pure_ (i := 4) (N := some 88) (v := ?_) (a' := ?_) #[true, false, true, true, true, false, false] rfl rfl (by kernel_rfl) (fun _ _ _ h => h) (Or.inl ⟨by rfl, ?_⟩) ?_ ?_
        rotate_left
        · intro w'
          go_simp
          with_reducible rfl
        rotate_left
        · simp only [Act.put, List.setIfInBounds_toArray, List.set_cons_zero, List.set_cons_succ, i64_w, i32_w]
          rfl
        refine take_ (i := 5) (N := some 89) (v := ?_) (a' := ?_) #[true, false, true, true, true, true, false] rfl rfl (by kernel_rfl) (fun _ _ _ h => h) (Or.inl ⟨by rfl, ?_⟩) hHeld ?_ ?_
        rotate_left
        · rintro w' s0
          go_simp
          with_reducible rfl
        rotate_left
        · simp only [Act.put, List.setIfInBounds_toArray, List.set_cons_zero, List.set_cons_succ, i64_w, i32_w]
          rfl
        refine one_ (i := 1) (N := some 85) #[true, true, true, true, true, true, false] rfl rfl (by kernel_rfl) (by decide) (fun K hK => ?_)
        refine goes_ Try.func27 (by kernel_rfl) rfl #[.pointer (some ⟨sb, 0, none⟩)] (by rfl) rfl rfl (by (try simp only [List.map_toArray, List.map_cons, List.map_nil]); first | done | rfl) ?_
        refine (taken_calls BR9.out.tr.st.drew).mono ?_
        rintro e_ wt ⟨rfl, hwt⟩
        replace hwt := hwt.symm
        subst hwt
        refine ⟨_, rfl, ?_⟩
        refine hK.out _ _ BR9.out.sr.c0 (fun hHeld => ?_)
        clear hK K
        refine norm_ (a' := ?_) ?_ ?_
        rotate_left
        · show Act.put _ (some 85) _ = _
          simp only [Act.put, List.setIfInBounds_toArray, List.set_cons_zero, List.set_cons_succ, i64_w, i32_w]
          rfl
        refine pure_ (i := 6) (N := some 90) (v := ?_) (a' := ?_) #[true, true, true, true, true, true, true] rfl rfl (by kernel_rfl) (fun _ _ _ h => h) (Or.inl ⟨by rfl, ?_⟩) ?_ ?_
        rotate_left
        · intro w'
          go_simp
          with_reducible rfl
        rotate_left
        · simp only [Act.put, List.setIfInBounds_toArray, List.set_cons_zero, List.set_cons_succ, i64_w, i32_w]
          rfl
        refine done_ (by kernel_rfl) ?_
        clear hHeld ct
        go_wp2
        go_roundg (l0.length - (j + 1))
        case measure => omega
        case rel => exact ⟨j + 1, m1, T9, cut F t (nextR F t).1.length, n, ks9, bs9, va9, vb9, by omega, by omega, by rw [EW.out], BR9.out.below (Below.refl _ _).drew, ⟨by have := HN.out; omega⟩, ⟨by have := HK.out; have := KL9.out; omega⟩, ⟨by have := HTB.out; have := LE.out; have := TT9.out; omega⟩⟩
    · have hltz : ¬ (j : Int) < (l0.length : Int) := by omega
      have BLr := Aside0.mk BR.out.tr.bl
      clear BR HN HK HTB
      go_wp2_with (first
        | (go_at_call 22; refine (next_nil _).mono ?_; rintro e_ w1 ⟨rfl, hw1⟩; replace hw1 := hw1.symm; subst hw1)
        | (go_at_call 25; refine (put_nil _ _ _ _ _).mono ?_; rintro e_ w1 ⟨rfl, hw1⟩; replace hw1 := hw1.symm; subst hw1)
        | (go_at_call 27; refine (taken_nil _).mono ?_; rintro e_ w1 ⟨rfl, hw1⟩; replace hw1 := hw1.symm; subst hw1)
        | (go_at_call 28; refine (awake_calls _).mono ?_; rintro e_ wz ⟨rfl, hb⟩; have BZ := Aside0.mk (below_step BLr.out hb); clear hb))
      go_ret
      exact ⟨rfl, BZ.out⟩
end Go.Proofs.Ytbcleckapamicaa.QSa
