/- Stream.front and long, walked. Written by mk-stm4.py (a program of this session). -/
import Derived.Test.YtbcleckapamicaaStm3
namespace Go.Proofs.Ytbcleckapamicaa.Stm
open Go Go.RowKit Go.Proofs.YtbcleckapamicaaW.PrintWords Go.Proofs.YtbcleckapamicaaW.PrintLast Go.Proofs.YtbcleckapamicaaW.PrintMore
set_option linter.unusedVariables false
set_option linter.unusedSimpArgs false

theorem info5 : (Try.prog.info? 5).map (fun i => (i.zero, i.size, i.bytes)) = some (some (.int .u8 0), 1, 1) := by kernel_rfl
theorem put_calls {w : World} {sb : Nat} {m : Option Nat} {t : Int} {F : Fn} {n : Nat} (hS : St w sb m t F n) (A : Option Addr) (c : Nat) (l : List Int) (p : Int) (hC : Kd.C (Kd.int .u8) w A l.length l) (ht : 0 ≤ t) (ht' : t ≤ 1099511627776) (hl : l.length ≤ 1099511627776)
    (hB : Bytes l) (hsep : ∀ ad, A = some ad → ¬ (ad.block = sb ∨ some ad.block = m)) (hn : n + l.length ≤ 1099511627776) :
    Calls Try.prog 25 #[.pointer (some ⟨sb, 0, none⟩), .int .i64 p, .slice A l.length c] w fun e w' => e = .returned (.int .i64 (putE F t p l)) ∧ After w w' sb m t (putF F t p l) (n + l.length) := by
  have same : ∀ {w' : World} {G : Fn}, w' = w → G = F → After w w' sb m t G (n + l.length) := by
    rintro w' G rfl rfl
    exact ⟨m, hS.mono (by omega), Or.inl rfl, Only.refl _ _⟩
  by_cases h0 : p < 0 ∨ p > 1073741824
  · have e : putE F t p l = 1 := by unfold putE; rw [if_pos h0]
    refine (put_bad hS A c l p h0).mono ?_
    rintro e' w' ⟨rfl, hw⟩
    exact ⟨by rw [e], same hw (by unfold putF; rw [e]; rfl)⟩
  by_cases h2 : 0 < l.length ∧ p + l.length - t > 4096
  · have e : putE F t p l = 4 := by unfold putE; rw [if_neg h0, if_pos h2]
    refine (put_long hS A c l p (by omega) (by omega) ht ht' hl h2.1 h2.2).mono ?_
    rintro e' w' ⟨rfl, hw⟩
    exact ⟨by rw [e], same hw (by unfold putF; rw [e]; rfl)⟩
  by_cases h3 : fits F p l l.length
  · have e : putE F t p l = 0 := by unfold putE; rw [if_neg h0, if_neg h2, if_pos h3]
    have e2 : putF F t p l = stored F t p l l.length := by unfold putF; rw [if_pos e]
    rw [e, e2]
    cases m with
    | none => exact put_none hS A c l p hC (by omega) (by omega) ht ht' hl h2 h3 hB hsep hn
    | some b => exact put_some hS A c l p hC (by omega) (by omega) ht ht' hl h2 h3 hB hsep hn
  · have e : putE F t p l = 12 := by unfold putE; rw [if_neg h0, if_neg h2, if_neg h3]
    refine (put_conflict hS A c l p hC (by omega) (by omega) ht ht' hl h2 h3).mono ?_
    rintro e' w' ⟨rfl, hw⟩
    exact ⟨by rw [e], same hw (by unfold putF; rw [e]; rfl)⟩

set_option maxRecDepth 100000 in
theorem Mq.run {w : World} {m : Option Nat} {n : Nat} {F : Fn} (hM : Mq w m n F) {k : Int} (hk : (Lit.int .i64 k).wf = true) :
    (Instr.lookup 40 (.map m) (.int .i64 k) true).run Try.prog w = .ok (.tuple #[.int .u8 ((F k).getD 0), .bool (F k).isSome]) w := by
  cases m with
  | none =>
    have hF : F k = none := hM k hk
    have h_ := Maps.look_nil (w := w) true lawK Try.underlying40 (zeroE w) (Maps.keyOf_int_mk Try.underlying3 hk)
    generalize Value.int .i64 k = key at h_ ⊢
    rw [hF, Option.getD_none, Option.isSome_none, h_]
    rfl
  | some b =>
    obtain ⟨D, hown, hT⟩ := hM
    obtain ⟨h1, h2⟩ := hT k hk
    obtain ⟨v, ps, hrun, hv⟩ := hown.look_ok lawK Try.underlying40 (zeroE w) (plainElem_int Try.underlying5 wf0) (Maps.keyOf_int_mk Try.underlying3 hk)
    obtain ⟨a, rfl, hz, _⟩ := plainElem_int_inv Try.underlying5 hv
    rw [h2] at hz
    have hz' : (DataW.lit (Lit.int .u8 ((F k).getD 0)) : DataW Unit) = .lit (.int .u8 a) := congrArg Prod.fst hz
    injection hz' with hz'
    injection hz' with _ hz'
    rw [hrun, h1, hz']

theorem front_app (F : Fn) (t : Int) : ∀ (j n : Nat), (∀ i : Nat, i < j → (F (t + i)).isSome = true) → front F t (j + n) = (List.range j).map (fun i => (F (t + (i : Nat))).getD 0) ++ front F (t + j) n := by
  intro j
  induction j with
  | zero => intro n _; simp
  | succ j ih =>
    intro n h
    obtain ⟨c, hc⟩ := Option.isSome_iff_exists.mp (h j (Nat.lt_succ_self j))
    rw [show j + 1 + n = j + (n + 1) from by omega, ih (n + 1) (fun i hi => h i (by omega)), front_some F _ n c hc, List.range_succ, List.map_append]
    simp [hc, Int.add_assoc]

set_option maxHeartbeats 4000000 in
set_option maxRecDepth 100000 in
theorem front_calls {w : World} {sb : Nat} {m : Option Nat} {t : Int} {F : Fn} {n : Nat} (hS : St w sb m t F n) (nn : Nat) (hnn : nn ≤ 1099511627776) (ht : 0 ≤ t) (ht' : t ≤ 1099511627776) :
    Calls Try.prog 48 #[.pointer (some ⟨sb, 0, none⟩), .int .i64 (nn : Nat)] w fun e w' => ∃ v, e = .returned v ∧ Kd.R (Kd.int .u8) 5 w' w.heap.size (fun _ => True) v (front F t nn) ∧ Below w.heap.size w w' := by
  have HS := Aside0.mk hS
  have HT := Aside0.mk ht
  have HT' := Aside0.mk ht'
  have HNN := Aside0.mk hnn
  clear hS ht ht' hnn
  go_enter Try.func48, Try.ntmps48
  go_wp2
  go_loopg [5] nn (fun gg v5 wr => ∃ ys : List Int, nn - ys.length ≤ gg ∧ Aside0 (ys.length ≤ nn) ∧ Kd.R (Kd.int .u8) 5 wr w.heap.size (fun _ => True) v5 ys ∧ Below w.heap.size w wr ∧ Aside0 (front F t nn = ys ++ front F (t + ys.length) (nn - ys.length)))
  case atStart => exact ⟨[], by simp, ⟨by simp⟩, Kd.R_nil _ _ _ _ _, Below.refl _ _, ⟨by simp⟩⟩
  case round =>
    obtain ⟨ys, hg, HY, ho, hb, HF⟩ := hrel
    have HO := Aside0.mk ho
    have HB := Aside0.mk hb
    have c0 : wr.cell? ⟨sb, 0, none⟩ = some (.int .i64 t) := pw_cell_below hb HS.out.c0
    have c1 : wr.cell? ⟨sb, 1, none⟩ = some (.map m) := pw_cell_below hb HS.out.c1
    have MP := Aside0.mk (HS.out.mp.move (w' := wr) (fun b e => hb.block b (by subst e; exact HS.out.mlt)))
    obtain ⟨Ay, cy, e5⟩ := Kd.R_slice ho
    subst e5
    clear ho hb
    by_cases hlt : ys.length < nn
    · have d0 : decide ((ys.length : Int) < (nn : Int)) = true := decide_eq_true (by omega)
      have d1 : decide (ys.length < nn) = true := decide_eq_true hlt
      have hy := HY.out
      have h1 := HT.out
      have h2 := HT'.out
      have h3 := HNN.out
      have EK := Aside0.mk (show wrap64 (t + (ys.length : Int)) = t + (ys.length : Int) by unfold wrap64; omega)
      have HW := Aside0.mk (show (Lit.int .i64 (t + (ys.length : Int))).wf = true from wf64 (by omega) (by omega))
      have HL := Aside0.mk (show (ys.length + 1) * 1 ≤ 140737488355328 by omega)
      have HG := Aside0.mk hg
      have HLT := Aside0.mk hlt
      clear hy h1 h2 h3 hg hlt
      rcases hF : F (t + (ys.length : Int)) with _ | cc
      · have HN := Aside0.mk hF
        clear hF
        go_wp2
        refine start_ (n := 17) (S := fun w' => w'.cell? ⟨sb, 0, none⟩ = some (.int .i64 t) ∧ w'.cell? ⟨sb, 1, none⟩ = some (.map m) ∧ Mq w' m n F) (ds := []) #[false, false, false, false, false, false, false, false, false, false, false, false, false, false, false, false, false] (by kernel_rfl) rfl rfl ⟨c0, c1, MP.out⟩ (fun hHeld => ?_)
        refine pure_ (i := 0) (N := some 13) (v := ?_) (a' := ?_) #[true, false, false, false, false, false, false, false, false, false, false, false, false, false, false, false, false] rfl rfl (by kernel_rfl) (fun _ _ _ h => h) (Or.inl ⟨by rfl, ?_⟩) ?_ ?_
        rotate_left
        · intro w'
          go_simp
          with_reducible rfl
        rotate_left
        · simp only [Act.put, List.setIfInBounds_toArray, List.set_cons_zero, List.set_cons_succ, i64_w, i32_w]
          rfl
        refine pure_ (i := 1) (N := some 14) (v := ?_) (a' := ?_) #[true, true, false, false, false, false, false, false, false, false, false, false, false, false, false, false, false] rfl rfl (by kernel_rfl) (fun _ _ _ h => h) (Or.inl ⟨by rfl, ?_⟩) ?_ ?_
        rotate_left
        · intro w'
          go_simp
          with_reducible rfl
        rotate_left
        · simp only [Act.put, List.setIfInBounds_toArray, List.set_cons_zero, List.set_cons_succ, i64_w, i32_w]
          rfl
        refine pure_ (i := 2) (N := some 15) (v := ?_) (a' := ?_) #[true, true, true, false, false, false, false, false, false, false, false, false, false, false, false, false, false] rfl rfl (by kernel_rfl) (fun _ _ _ h => h) (Or.inl ⟨by rfl, ?_⟩) ?_ ?_
        rotate_left
        · intro w'
          go_simp
          with_reducible rfl
        rotate_left
        · simp only [Act.put, List.setIfInBounds_toArray, List.set_cons_zero, List.set_cons_succ, i64_w, i32_w]
          rfl
        refine take_ (i := 3) (N := some 16) (v := ?_) (a' := ?_) #[true, true, true, true, false, false, false, false, false, false, false, false, false, false, false, false, false] rfl rfl (by kernel_rfl) (fun _ _ _ h => h) (Or.inl ⟨by rfl, ?_⟩) hHeld ?_ ?_
        rotate_left
        · rintro w' ⟨s0, s1, s2⟩
          go_simp
          with_reducible rfl
        rotate_left
        · simp only [Act.put, List.setIfInBounds_toArray, List.set_cons_zero, List.set_cons_succ, i64_w, i32_w]
          rfl
        refine pure_ (i := 4) (N := some 17) (v := ?_) (a' := ?_) #[true, true, true, true, true, false, false, false, false, false, false, false, false, false, false, false, false] rfl rfl (by kernel_rfl) (fun _ _ _ h => h) (Or.inl ⟨by rfl, ?_⟩) ?_ ?_
        rotate_left
        · intro w'
          go_simp
          with_reducible rfl
        rotate_left
        · simp only [Act.put, List.setIfInBounds_toArray, List.set_cons_zero, List.set_cons_succ, i64_w, i32_w]
          rfl
        refine pure_ (i := 5) (N := some 18) (v := ?_) (a' := ?_) #[true, true, true, true, true, true, false, false, false, false, false, false, false, false, false, false, false] rfl rfl (by kernel_rfl) (fun _ _ _ h => h) (Or.inl ⟨by rfl, ?_⟩) ?_ ?_
        rotate_left
        · intro w'
          go_simp
          with_reducible rfl
        rotate_left
        · simp only [Act.put, List.setIfInBounds_toArray, List.set_cons_zero, List.set_cons_succ, i64_w, i32_w]
          rfl
        refine pure_ (i := 6) (N := some 19) (v := ?_) (a' := ?_) #[true, true, true, true, true, true, true, false, false, false, false, false, false, false, false, false, false] rfl rfl (by kernel_rfl) (fun _ _ _ h => h) (Or.inl ⟨by rfl, ?_⟩) ?_ ?_
        rotate_left
        · intro w'
          go_simp
          with_reducible rfl
        rotate_left
        · simp only [Act.put, List.setIfInBounds_toArray, List.set_cons_zero, List.set_cons_succ, i64_w, i32_w]
          rfl
        refine take_ (i := 7) (N := some 20) (v := ?_) (a' := ?_) #[true, true, true, true, true, true, true, true, false, false, false, false, false, false, false, false, false] rfl rfl (by kernel_rfl) (fun _ _ _ h => h) (Or.inl ⟨by rfl, ?_⟩) hHeld ?_ ?_
        rotate_left
        · rintro w' ⟨s0, s1, s2⟩
          go_simp
          with_reducible rfl
        rotate_left
        · simp only [Act.put, List.setIfInBounds_toArray, List.set_cons_zero, List.set_cons_succ, i64_w, i32_w]
          rfl
        refine pure_ (i := 8) (N := some 21) (v := ?_) (a' := ?_) #[true, true, true, true, true, true, true, true, true, false, false, false, false, false, false, false, false] rfl rfl (by kernel_rfl) (fun _ _ _ h => h) (Or.inl ⟨by rfl, ?_⟩) ?_ ?_
        rotate_left
        · intro w'
          go_simp
          with_reducible rfl
        rotate_left
        · simp only [Act.put, List.setIfInBounds_toArray, List.set_cons_zero, List.set_cons_succ, i64_w, i32_w]
          rfl
        refine pure_ (i := 9) (N := some 22) (v := ?_) (a' := ?_) #[true, true, true, true, true, true, true, true, true, true, false, false, false, false, false, false, false] rfl rfl (by kernel_rfl) (fun _ _ _ h => h) (Or.inl ⟨by rfl, ?_⟩) ?_ ?_
        rotate_left
        · intro w'
          go_simp
          with_reducible rfl
        rotate_left
        · simp only [Act.put, List.setIfInBounds_toArray, List.set_cons_zero, List.set_cons_succ, i64_w, i32_w]
          rfl
        refine pure_ (i := 10) (N := some 23) (v := ?_) (a' := ?_) #[true, true, true, true, true, true, true, true, true, true, true, false, false, false, false, false, false] rfl rfl (by kernel_rfl) (fun _ _ _ h => h) (Or.inl ⟨by rfl, ?_⟩) ?_ ?_
        rotate_left
        · intro w'
          go_simp
          with_reducible rfl
        rotate_left
        · simp only [Act.put, List.setIfInBounds_toArray, List.set_cons_zero, List.set_cons_succ, i64_w, i32_w]
          rfl
        refine take_ (i := 11) (N := some 24) (v := ?_) (a' := ?_) #[true, true, true, true, true, true, true, true, true, true, true, true, false, false, false, false, false] rfl rfl (by kernel_rfl) (fun _ _ _ h => h) (Or.inl ⟨by rfl, ?_⟩) hHeld ?_ ?_
        rotate_left
        · rintro w' ⟨s0, s1, s2⟩
          have hrun : (Instr.lookup 40 (.map m) (.int .i64 (wrap64 (t + (ys.length : Int)))) true).run Try.prog w' = .ok (.tuple #[.int .u8 0, .bool false]) w' := by
            have h_ := s2.run HW.out
            rw [HN.out] at h_
            rw [EK.out]
            exact h_
          clear s0 s1 s2
          go_simp
          with_reducible rfl
        rotate_left
        · simp only [Act.put, List.setIfInBounds_toArray, List.set_cons_zero, List.set_cons_succ, i64_w, i32_w]
          rfl
        refine pure_ (i := 12) (N := some 12) (v := ?_) (a' := ?_) #[true, true, true, true, true, true, true, true, true, true, true, true, true, false, false, false, false] rfl rfl (by kernel_rfl) (fun _ _ _ h => h) (Or.inl ⟨by rfl, ?_⟩) ?_ ?_
        rotate_left
        · intro w'
          go_simp
          with_reducible rfl
        rotate_left
        · simp only [Act.put, List.setIfInBounds_toArray, List.set_cons_zero, List.set_cons_succ, i64_w, i32_w]
          rfl
        refine pure_ (i := 13) (N := some 25) (v := ?_) (a' := ?_) #[true, true, true, true, true, true, true, true, true, true, true, true, true, true, false, false, false] rfl rfl (by kernel_rfl) (fun _ _ _ h => h) (Or.inl ⟨by rfl, ?_⟩) ?_ ?_
        rotate_left
        · intro w'
          go_simp
          with_reducible rfl
        rotate_left
        · simp only [Act.put, List.setIfInBounds_toArray, List.set_cons_zero, List.set_cons_succ, i64_w, i32_w]
          rfl
        refine pure_ (i := 14) (N := some 26) (v := ?_) (a' := ?_) #[true, true, true, true, true, true, true, true, true, true, true, true, true, true, true, false, false] rfl rfl (by kernel_rfl) (fun _ _ _ h => h) (Or.inl ⟨by rfl, ?_⟩) ?_ ?_
        rotate_left
        · intro w'
          go_simp
          with_reducible rfl
        rotate_left
        · simp only [Act.put, List.setIfInBounds_toArray, List.set_cons_zero, List.set_cons_succ, i64_w, i32_w]
          rfl
        refine pure_ (i := 15) (N := some 6) (v := ?_) (a' := ?_) #[true, true, true, true, true, true, true, true, true, true, true, true, true, true, true, true, false] rfl rfl (by kernel_rfl) (fun _ _ _ h => h) (Or.inl ⟨by rfl, ?_⟩) ?_ ?_
        rotate_left
        · intro w'
          go_simp
          with_reducible rfl
        rotate_left
        · simp only [Act.put, List.setIfInBounds_toArray, List.set_cons_zero, List.set_cons_succ, i64_w, i32_w]
          rfl
        refine pure_ (i := 16) (N := some 7) (v := ?_) (a' := ?_) #[true, true, true, true, true, true, true, true, true, true, true, true, true, true, true, true, true] rfl rfl (by kernel_rfl) (fun _ _ _ h => h) (Or.inl ⟨by rfl, ?_⟩) ?_ ?_
        rotate_left
        · intro w'
          go_simp
          with_reducible rfl
        rotate_left
        · simp only [Act.put, List.setIfInBounds_toArray, List.set_cons_zero, List.set_cons_succ, i64_w, i32_w]
          rfl
        refine done_ (by kernel_rfl) ?_
        go_wp2
        have HR := HF.out
        rw [front_none F _ _ HN.out, List.append_nil] at HR
        go_ret
        exact ⟨_, rfl, by rw [HR]; exact Kd.R_drewN HO.out 1, pw_below_drewN HB.out 1⟩
      · have HN := Aside0.mk hF
        clear hF
        go_wp2
        refine start_ (n := 17) (S := fun w' => w'.cell? ⟨sb, 0, none⟩ = some (.int .i64 t) ∧ w'.cell? ⟨sb, 1, none⟩ = some (.map m) ∧ Mq w' m n F) (ds := []) #[false, false, false, false, false, false, false, false, false, false, false, false, false, false, false, false, false] (by kernel_rfl) rfl rfl ⟨c0, c1, MP.out⟩ (fun hHeld => ?_)
        refine pure_ (i := 0) (N := some 13) (v := ?_) (a' := ?_) #[true, false, false, false, false, false, false, false, false, false, false, false, false, false, false, false, false] rfl rfl (by kernel_rfl) (fun _ _ _ h => h) (Or.inl ⟨by rfl, ?_⟩) ?_ ?_
        rotate_left
        · intro w'
          go_simp
          with_reducible rfl
        rotate_left
        · simp only [Act.put, List.setIfInBounds_toArray, List.set_cons_zero, List.set_cons_succ, i64_w, i32_w]
          rfl
        refine pure_ (i := 1) (N := some 14) (v := ?_) (a' := ?_) #[true, true, false, false, false, false, false, false, false, false, false, false, false, false, false, false, false] rfl rfl (by kernel_rfl) (fun _ _ _ h => h) (Or.inl ⟨by rfl, ?_⟩) ?_ ?_
        rotate_left
        · intro w'
          go_simp
          with_reducible rfl
        rotate_left
        · simp only [Act.put, List.setIfInBounds_toArray, List.set_cons_zero, List.set_cons_succ, i64_w, i32_w]
          rfl
        refine pure_ (i := 2) (N := some 15) (v := ?_) (a' := ?_) #[true, true, true, false, false, false, false, false, false, false, false, false, false, false, false, false, false] rfl rfl (by kernel_rfl) (fun _ _ _ h => h) (Or.inl ⟨by rfl, ?_⟩) ?_ ?_
        rotate_left
        · intro w'
          go_simp
          with_reducible rfl
        rotate_left
        · simp only [Act.put, List.setIfInBounds_toArray, List.set_cons_zero, List.set_cons_succ, i64_w, i32_w]
          rfl
        refine take_ (i := 3) (N := some 16) (v := ?_) (a' := ?_) #[true, true, true, true, false, false, false, false, false, false, false, false, false, false, false, false, false] rfl rfl (by kernel_rfl) (fun _ _ _ h => h) (Or.inl ⟨by rfl, ?_⟩) hHeld ?_ ?_
        rotate_left
        · rintro w' ⟨s0, s1, s2⟩
          go_simp
          with_reducible rfl
        rotate_left
        · simp only [Act.put, List.setIfInBounds_toArray, List.set_cons_zero, List.set_cons_succ, i64_w, i32_w]
          rfl
        refine pure_ (i := 4) (N := some 17) (v := ?_) (a' := ?_) #[true, true, true, true, true, false, false, false, false, false, false, false, false, false, false, false, false] rfl rfl (by kernel_rfl) (fun _ _ _ h => h) (Or.inl ⟨by rfl, ?_⟩) ?_ ?_
        rotate_left
        · intro w'
          go_simp
          with_reducible rfl
        rotate_left
        · simp only [Act.put, List.setIfInBounds_toArray, List.set_cons_zero, List.set_cons_succ, i64_w, i32_w]
          rfl
        refine pure_ (i := 5) (N := some 18) (v := ?_) (a' := ?_) #[true, true, true, true, true, true, false, false, false, false, false, false, false, false, false, false, false] rfl rfl (by kernel_rfl) (fun _ _ _ h => h) (Or.inl ⟨by rfl, ?_⟩) ?_ ?_
        rotate_left
        · intro w'
          go_simp
          with_reducible rfl
        rotate_left
        · simp only [Act.put, List.setIfInBounds_toArray, List.set_cons_zero, List.set_cons_succ, i64_w, i32_w]
          rfl
        refine pure_ (i := 6) (N := some 19) (v := ?_) (a' := ?_) #[true, true, true, true, true, true, true, false, false, false, false, false, false, false, false, false, false] rfl rfl (by kernel_rfl) (fun _ _ _ h => h) (Or.inl ⟨by rfl, ?_⟩) ?_ ?_
        rotate_left
        · intro w'
          go_simp
          with_reducible rfl
        rotate_left
        · simp only [Act.put, List.setIfInBounds_toArray, List.set_cons_zero, List.set_cons_succ, i64_w, i32_w]
          rfl
        refine take_ (i := 7) (N := some 20) (v := ?_) (a' := ?_) #[true, true, true, true, true, true, true, true, false, false, false, false, false, false, false, false, false] rfl rfl (by kernel_rfl) (fun _ _ _ h => h) (Or.inl ⟨by rfl, ?_⟩) hHeld ?_ ?_
        rotate_left
        · rintro w' ⟨s0, s1, s2⟩
          go_simp
          with_reducible rfl
        rotate_left
        · simp only [Act.put, List.setIfInBounds_toArray, List.set_cons_zero, List.set_cons_succ, i64_w, i32_w]
          rfl
        refine pure_ (i := 8) (N := some 21) (v := ?_) (a' := ?_) #[true, true, true, true, true, true, true, true, true, false, false, false, false, false, false, false, false] rfl rfl (by kernel_rfl) (fun _ _ _ h => h) (Or.inl ⟨by rfl, ?_⟩) ?_ ?_
        rotate_left
        · intro w'
          go_simp
          with_reducible rfl
        rotate_left
        · simp only [Act.put, List.setIfInBounds_toArray, List.set_cons_zero, List.set_cons_succ, i64_w, i32_w]
          rfl
        refine pure_ (i := 9) (N := some 22) (v := ?_) (a' := ?_) #[true, true, true, true, true, true, true, true, true, true, false, false, false, false, false, false, false] rfl rfl (by kernel_rfl) (fun _ _ _ h => h) (Or.inl ⟨by rfl, ?_⟩) ?_ ?_
        rotate_left
        · intro w'
          go_simp
          with_reducible rfl
        rotate_left
        · simp only [Act.put, List.setIfInBounds_toArray, List.set_cons_zero, List.set_cons_succ, i64_w, i32_w]
          rfl
        refine pure_ (i := 10) (N := some 23) (v := ?_) (a' := ?_) #[true, true, true, true, true, true, true, true, true, true, true, false, false, false, false, false, false] rfl rfl (by kernel_rfl) (fun _ _ _ h => h) (Or.inl ⟨by rfl, ?_⟩) ?_ ?_
        rotate_left
        · intro w'
          go_simp
          with_reducible rfl
        rotate_left
        · simp only [Act.put, List.setIfInBounds_toArray, List.set_cons_zero, List.set_cons_succ, i64_w, i32_w]
          rfl
        refine take_ (i := 11) (N := some 24) (v := ?_) (a' := ?_) #[true, true, true, true, true, true, true, true, true, true, true, true, false, false, false, false, false] rfl rfl (by kernel_rfl) (fun _ _ _ h => h) (Or.inl ⟨by rfl, ?_⟩) hHeld ?_ ?_
        rotate_left
        · rintro w' ⟨s0, s1, s2⟩
          have hrun : (Instr.lookup 40 (.map m) (.int .i64 (wrap64 (t + (ys.length : Int)))) true).run Try.prog w' = .ok (.tuple #[.int .u8 cc, .bool true]) w' := by
            have h_ := s2.run HW.out
            rw [HN.out] at h_
            rw [EK.out]
            exact h_
          clear s0 s1 s2
          go_simp
          with_reducible rfl
        rotate_left
        · simp only [Act.put, List.setIfInBounds_toArray, List.set_cons_zero, List.set_cons_succ, i64_w, i32_w]
          rfl
        refine pure_ (i := 12) (N := some 12) (v := ?_) (a' := ?_) #[true, true, true, true, true, true, true, true, true, true, true, true, true, false, false, false, false] rfl rfl (by kernel_rfl) (fun _ _ _ h => h) (Or.inl ⟨by rfl, ?_⟩) ?_ ?_
        rotate_left
        · intro w'
          go_simp
          with_reducible rfl
        rotate_left
        · simp only [Act.put, List.setIfInBounds_toArray, List.set_cons_zero, List.set_cons_succ, i64_w, i32_w]
          rfl
        refine pure_ (i := 13) (N := some 25) (v := ?_) (a' := ?_) #[true, true, true, true, true, true, true, true, true, true, true, true, true, true, false, false, false] rfl rfl (by kernel_rfl) (fun _ _ _ h => h) (Or.inl ⟨by rfl, ?_⟩) ?_ ?_
        rotate_left
        · intro w'
          go_simp
          with_reducible rfl
        rotate_left
        · simp only [Act.put, List.setIfInBounds_toArray, List.set_cons_zero, List.set_cons_succ, i64_w, i32_w]
          rfl
        refine pure_ (i := 14) (N := some 26) (v := ?_) (a' := ?_) #[true, true, true, true, true, true, true, true, true, true, true, true, true, true, true, false, false] rfl rfl (by kernel_rfl) (fun _ _ _ h => h) (Or.inl ⟨by rfl, ?_⟩) ?_ ?_
        rotate_left
        · intro w'
          go_simp
          with_reducible rfl
        rotate_left
        · simp only [Act.put, List.setIfInBounds_toArray, List.set_cons_zero, List.set_cons_succ, i64_w, i32_w]
          rfl
        refine pure_ (i := 15) (N := some 6) (v := ?_) (a' := ?_) #[true, true, true, true, true, true, true, true, true, true, true, true, true, true, true, true, false] rfl rfl (by kernel_rfl) (fun _ _ _ h => h) (Or.inl ⟨by rfl, ?_⟩) ?_ ?_
        rotate_left
        · intro w'
          go_simp
          with_reducible rfl
        rotate_left
        · simp only [Act.put, List.setIfInBounds_toArray, List.set_cons_zero, List.set_cons_succ, i64_w, i32_w]
          rfl
        refine pure_ (i := 16) (N := some 7) (v := ?_) (a' := ?_) #[true, true, true, true, true, true, true, true, true, true, true, true, true, true, true, true, true] rfl rfl (by kernel_rfl) (fun _ _ _ h => h) (Or.inl ⟨by rfl, ?_⟩) ?_ ?_
        rotate_left
        · intro w'
          go_simp
          with_reducible rfl
        rotate_left
        · simp only [Act.put, List.setIfInBounds_toArray, List.set_cons_zero, List.set_cons_succ, i64_w, i32_w]
          rfl
        refine done_ (by kernel_rfl) ?_
        have HOd := Aside0.mk (Kd.R_drew HO.out)
        have HBd := Aside0.mk HB.out.drew
        clear hHeld c0 c1 MP HO HB
        generalize wr.drew = wd at HOd HBd ⊢
        go_wp2_with (first | ((with_reducible refine gate_builtin (b := .append) (xs := #[.tmp 29, .tmp 31]) rfl ?_); at_builtin; refine Kd.R_append (Kd.int .u8) (w0 := w) w.heap.size rfl (.tmp 29) (.tmp 31) 44 5 (.int .u8 0) 1 rfl Try.underlying44 info5 rfl (by decide) (by omega) (.slice Ay ys.length cy) ys cc [.int .u8 cc] (fun _ => True) (fun _ => False) rfl rfl ?aP (fun _ hk => hk.elim) ?aF ?aO ?aB ?aS ?aL ?_; (case aP => exact rfl); (case aB => exact HBd.out); (case aF => exact (fun _ _ => trivial)); (case aO => exact HOd.out); (case aS => exact below_size HBd.out); (case aL => exact HL.out); intro v9 w9 ho hb hg hat; clear hg hat; have HO9 := Aside0.mk ho; have HB9 := Aside0.mk hb; clear ho hb))
        go_roundg (nn - (ys.length + 1))
        case measure => have := HG.out; have := HLT.out; omega
        case rel => exact ⟨ys ++ [cc], by simp, ⟨by have := HLT.out; simp; omega⟩, HO9.out, HB9.out, ⟨by
          have h := HF.out
          have hlt := HLT.out
          rw [show nn - ys.length = (nn - (ys.length + 1)) + 1 by omega, front_some F _ _ cc HN.out] at h
          rw [h, List.append_assoc, List.length_append]
          simp [Int.add_assoc]⟩⟩
    · have d0 : decide ((ys.length : Int) < (nn : Int)) = false := decide_eq_false (by omega)
      have d1 : decide (ys.length < nn) = false := decide_eq_false hlt
      have HR := HF.out
      rw [show nn - ys.length = 0 by omega] at HR
      have HR' := Aside0.mk (HR.trans (by simp [front] : ys ++ front F (t + (ys.length : Int)) 0 = ys))
      clear HR hlt hg
      go_wp2
      go_ret
      exact ⟨_, rfl, by rw [HR'.out]; exact HO.out, HB.out⟩
end Go.Proofs.Ytbcleckapamicaa.Stm
