/- Stream.long, Taken, Next, walked. Written by mk-stm5.py (a program of this session). -/
import Derived.Test.YtbcleckapamicaaStm4
namespace Go.Proofs.Ytbcleckapamicaa.Stm
open Go Go.RowKit Go.Proofs.YtbcleckapamicaaW.PrintWords Go.Proofs.YtbcleckapamicaaW.PrintLast Go.Proofs.YtbcleckapamicaaW.PrintMore
set_option linter.unusedVariables false
set_option linter.unusedSimpArgs false

theorem St.drew {w : World} {sb : Nat} {m : Option Nat} {t : Int} {F : Fn} {n : Nat} (h : St w sb m t F n) : St w.drew sb m t F n := ⟨h.c0, h.c1, h.f0, h.f1, h.mp.move (fun _ _ => rfl)⟩
theorem St.setT {w : World} {sb : Nat} {m : Option Nat} {t : Int} {F : Fn} {n : Nat} (h : St w sb m t F n) (t' : Int) : St (w.setCell ⟨sb, 0, none⟩ (.int .i64 t')) sb m t' F n := by
  refine ⟨World.cell?_setCell_same _ _ _ h.c0, ?_, ?_, ?_, h.mp.move (fun b e => ?_)⟩
  · rw [World.cell?_setCell_other _ _ _ _ (by simp)]
    exact h.c1
  · rw [World.frozen?_setCell]; exact h.f0
  · rw [World.frozen?_setCell]; exact h.f1
  · subst e
    exact Below.heap_setCell _ _ _ _ h.ne
theorem Mq.del_run {w : World} {b n : Nat} {F : Fn} (hM : Mq w (some b) n F) {k : Int} (hk : (Lit.int .i64 k).wf = true) (ty : TypeId) :
    ∃ w', (Builtin.delete_ #[40, 3] ty #[.map (some b), .int .i64 k]).run Try.prog w = .ok (.tuple #[]) w' ∧ Mq w' (some b) n (fun j => if j = k then none else F j) ∧ w.mapTurned w' b := by
  obtain ⟨D, hown, hT⟩ := hM
  obtain ⟨w', h1, h2, h3⟩ := hown.drop lawK Try.underlying40 (Maps.keyOf_int_mk Try.underlying3 hk) ty
  exact ⟨w', h1, ⟨_, h2, hT.del k⟩, h3⟩
theorem delete_value {o : Oper} {a : Act} {w w2 : World} {b : Nat} {k : Int} (mo x : Operand) (hop : o.op = Op.call { callee := Callee.builtin Builtin.delete, args := #[mo, x], argTypes := #[40, 3] }) (hm : a.eval mo = .map (some b)) (hx : a.eval x = .int .i64 k)
    (hrun : (Builtin.delete_ #[40, 3] o.type #[.map (some b), .int .i64 k]).run Try.prog w = .ok (.tuple #[]) w2) : (execOp a.eval o).run Try.prog w = .ok (.value (.tuple #[])) w2 := by
  simp [execOp, hop, resolve, invoke, builtin, hm, hx, hrun, Result.andThen]

theorem taken_calls {w : World} {sb : Nat} {m : Option Nat} {t : Int} {F : Fn} {n : Nat} (hS : St w sb m t F n) :
    Calls Try.prog 27 #[.pointer (some ⟨sb, 0, none⟩)] w fun e w' => e = .returned (.int .i64 t) ∧ w' = w := by
  have c0 := hS.c0
  clear hS
  go_enter Try.func27, Try.ntmps27
  go_wp2
  go_ret
  exact ⟨rfl, rfl⟩

theorem long_val (b1 b2 b3 : Int) (h1 : 0 ≤ b1 ∧ b1 ≤ 255) (h2 : 0 ≤ b2 ∧ b2 ≤ 255) (h3 : 0 ≤ b3 ∧ b3 ≤ 255) : wrap64 (4 + bits .or .i64 (bits .or .i64 (wrap64 (wrap64 b1 * 65536)) (wrap64 (wrap64 b2 * 256))) (wrap64 b3)) = 4 + (65536 * b1 + 256 * b2 + b3) := by
  have e0 : ∀ x : Int, 0 ≤ x ∧ x ≤ 255 → wrap64 x = x := fun x hx => by unfold wrap64; omega
  rw [e0 b1 h1, e0 b2 h2, e0 b3 h3]
  have e1 : wrap64 (b1 * 65536) = b1 * 65536 := by unfold wrap64; omega
  have e2 : wrap64 (b2 * 256) = b2 * 256 := by unfold wrap64; omega
  rw [e1, e2, i64_or_add (b1 * 65536) (b2 * 256) 16 (by omega) (by omega) (by omega) (by omega) (by omega) (by omega),
    i64_or_add (b1 * 65536 + b2 * 256) b3 8 (by omega) (by omega) (by omega) (by omega) (by omega) (by omega)]
  unfold wrap64
  omega
set_option maxHeartbeats 4000000 in
set_option maxRecDepth 100000 in
theorem long_calls {w : World} (A : Option Addr) (c : Nat) (l : List Int) (hC : Kd.C (Kd.int .u8) w A l.length l) (h4 : 4 ≤ l.length) (hB : Bytes l) :
    Calls Try.prog 49 #[.slice A l.length c] w fun e w' => e = .returned (.int .i64 (mlen l)) ∧ w' = w.drew := by
  obtain ⟨ad, rfl, k1⟩ := Kd.at_int hC (1 : Int) (by omega) (by omega)
  obtain ⟨ad2, e2, k2⟩ := Kd.at_int hC (2 : Int) (by omega) (by omega)
  obtain ⟨ad3, e3, k3⟩ := Kd.at_int hC (3 : Int) (by omega) (by omega)
  obtain rfl := Option.some.inj e2
  obtain rfl := Option.some.inj e3
  have r1 := bytes_rd hB 1 (by omega)
  have r2 := bytes_rd hB 2 (by omega)
  have r3 := bytes_rd hB 3 (by omega)
  have hm : mlen l = 4 + (65536 * rd l 1 + 256 * rd l 2 + rd l 3) := rfl
  rw [hm]
  have g1 : (1 : Int) < (l.length : Int) := by omega
  have g2 : (2 : Int) < (l.length : Int) := by omega
  have g3 : (3 : Int) < (l.length : Int) := by omega
  have n1 : 1 < l.length := by omega
  have n2 : 2 < l.length := by omega
  have n3 : 3 < l.length := by omega
  replace k1 : w.cell? ⟨ad.block, ad.off + 1, none⟩ = some (.int .u8 (rd l 1)) := by simpa [Addr.add] using k1
  replace k2 : w.cell? ⟨ad.block, ad.off + 2, none⟩ = some (.int .u8 (rd l 2)) := by simpa [Addr.add] using k2
  replace k3 : w.cell? ⟨ad.block, ad.off + 3, none⟩ = some (.int .u8 (rd l 3)) := by simpa [Addr.add] using k3
  change 0 ≤ rd l 1 ∧ rd l 1 ≤ 255 at r1
  change 0 ≤ rd l 2 ∧ rd l 2 ≤ 255 at r2
  change 0 ≤ rd l 3 ∧ rd l 3 ≤ 255 at r3
  clear hC h4 hB e2 e3 hm
  generalize rd l 1 = b1 at *
  generalize rd l 2 = b2 at *
  generalize rd l 3 = b3 at *
  have HV := Aside0.mk (long_val b1 b2 b3 r1 r2 r3)
  clear r1 r2 r3
  generalize l.length = ln at *
  go_enter Try.func49, Try.ntmps49
  go_wp2
  refine start_ (n := 18) (S := fun w' => w'.cell? ⟨ad.block, ad.off + 1, none⟩ = some (.int .u8 b1) ∧ w'.cell? ⟨ad.block, ad.off + 2, none⟩ = some (.int .u8 b2) ∧ w'.cell? ⟨ad.block, ad.off + 3, none⟩ = some (.int .u8 b3)) (ds := []) #[false, false, false, false, false, false, false, false, false, false, false, false, false, false, false, false, false, false] (by kernel_rfl) rfl rfl ⟨k1, k2, k3⟩ (fun hHeld => ?_)
  refine pure_ (i := 0) (N := some 3) (v := ?_) (a' := ?_) #[true, false, false, false, false, false, false, false, false, false, false, false, false, false, false, false, false, false] rfl rfl (by kernel_rfl) (fun _ _ _ h => h) (Or.inl ⟨by rfl, ?_⟩) ?_ ?_
  rotate_left
  · intro w'
    go_simp
    with_reducible rfl
  rotate_left
  · simp only [Act.put, List.setIfInBounds_toArray, List.set_cons_zero, List.set_cons_succ, i64_w, i32_w]
    rfl
  refine pure_ (i := 1) (N := some 4) (v := ?_) (a' := ?_) #[true, true, false, false, false, false, false, false, false, false, false, false, false, false, false, false, false, false] rfl rfl (by kernel_rfl) (fun _ _ _ h => h) (Or.inl ⟨by rfl, ?_⟩) ?_ ?_
  rotate_left
  · intro w'
    go_simp
    with_reducible rfl
  rotate_left
  · simp only [Act.put, List.setIfInBounds_toArray, List.set_cons_zero, List.set_cons_succ, i64_w, i32_w]
    rfl
  refine take_ (i := 2) (N := some 5) (v := ?_) (a' := ?_) #[true, true, true, false, false, false, false, false, false, false, false, false, false, false, false, false, false, false] rfl rfl (by kernel_rfl) (fun _ _ _ h => h) (Or.inl ⟨by rfl, ?_⟩) hHeld ?_ ?_
  rotate_left
  · rintro w' ⟨s0, s1, s2⟩
    go_simp
    with_reducible rfl
  rotate_left
  · simp only [Act.put, List.setIfInBounds_toArray, List.set_cons_zero, List.set_cons_succ, i64_w, i32_w]
    rfl
  refine pure_ (i := 3) (N := some 6) (v := ?_) (a' := ?_) #[true, true, true, true, false, false, false, false, false, false, false, false, false, false, false, false, false, false] rfl rfl (by kernel_rfl) (fun _ _ _ h => h) (Or.inl ⟨by rfl, ?_⟩) ?_ ?_
  rotate_left
  · intro w'
    go_simp
    with_reducible rfl
  rotate_left
  · simp only [Act.put, List.setIfInBounds_toArray, List.set_cons_zero, List.set_cons_succ, i64_w, i32_w]
    rfl
  refine pure_ (i := 4) (N := some 7) (v := ?_) (a' := ?_) #[true, true, true, true, true, false, false, false, false, false, false, false, false, false, false, false, false, false] rfl rfl (by kernel_rfl) (fun _ _ _ h => h) (Or.inl ⟨by rfl, ?_⟩) ?_ ?_
  rotate_left
  · intro w'
    go_simp
    with_reducible rfl
  rotate_left
  · simp only [Act.put, List.setIfInBounds_toArray, List.set_cons_zero, List.set_cons_succ, i64_w, i32_w]
    rfl
  refine pure_ (i := 5) (N := some 8) (v := ?_) (a' := ?_) #[true, true, true, true, true, true, false, false, false, false, false, false, false, false, false, false, false, false] rfl rfl (by kernel_rfl) (fun _ _ _ h => h) (Or.inl ⟨by rfl, ?_⟩) ?_ ?_
  rotate_left
  · intro w'
    go_simp
    with_reducible rfl
  rotate_left
  · simp only [Act.put, List.setIfInBounds_toArray, List.set_cons_zero, List.set_cons_succ, i64_w, i32_w]
    rfl
  refine pure_ (i := 6) (N := some 9) (v := ?_) (a' := ?_) #[true, true, true, true, true, true, true, false, false, false, false, false, false, false, false, false, false, false] rfl rfl (by kernel_rfl) (fun _ _ _ h => h) (Or.inl ⟨by rfl, ?_⟩) ?_ ?_
  rotate_left
  · intro w'
    go_simp
    with_reducible rfl
  rotate_left
  · simp only [Act.put, List.setIfInBounds_toArray, List.set_cons_zero, List.set_cons_succ, i64_w, i32_w]
    rfl
  refine take_ (i := 7) (N := some 10) (v := ?_) (a' := ?_) #[true, true, true, true, true, true, true, true, false, false, false, false, false, false, false, false, false, false] rfl rfl (by kernel_rfl) (fun _ _ _ h => h) (Or.inl ⟨by rfl, ?_⟩) hHeld ?_ ?_
  rotate_left
  · rintro w' ⟨s0, s1, s2⟩
    go_simp
    with_reducible rfl
  rotate_left
  · simp only [Act.put, List.setIfInBounds_toArray, List.set_cons_zero, List.set_cons_succ, i64_w, i32_w]
    rfl
  refine pure_ (i := 8) (N := some 11) (v := ?_) (a' := ?_) #[true, true, true, true, true, true, true, true, true, false, false, false, false, false, false, false, false, false] rfl rfl (by kernel_rfl) (fun _ _ _ h => h) (Or.inl ⟨by rfl, ?_⟩) ?_ ?_
  rotate_left
  · intro w'
    go_simp
    with_reducible rfl
  rotate_left
  · simp only [Act.put, List.setIfInBounds_toArray, List.set_cons_zero, List.set_cons_succ, i64_w, i32_w]
    rfl
  refine pure_ (i := 9) (N := some 12) (v := ?_) (a' := ?_) #[true, true, true, true, true, true, true, true, true, true, false, false, false, false, false, false, false, false] rfl rfl (by kernel_rfl) (fun _ _ _ h => h) (Or.inl ⟨by rfl, ?_⟩) ?_ ?_
  rotate_left
  · intro w'
    go_simp
    with_reducible rfl
  rotate_left
  · simp only [Act.put, List.setIfInBounds_toArray, List.set_cons_zero, List.set_cons_succ, i64_w, i32_w]
    rfl
  refine pure_ (i := 10) (N := some 13) (v := ?_) (a' := ?_) #[true, true, true, true, true, true, true, true, true, true, true, false, false, false, false, false, false, false] rfl rfl (by kernel_rfl) (fun _ _ _ h => h) (Or.inl ⟨by rfl, ?_⟩) ?_ ?_
  rotate_left
  · intro w'
    go_simp
    with_reducible rfl
  rotate_left
  · simp only [Act.put, List.setIfInBounds_toArray, List.set_cons_zero, List.set_cons_succ, i64_w, i32_w]
    rfl
  refine pure_ (i := 11) (N := some 14) (v := ?_) (a' := ?_) #[true, true, true, true, true, true, true, true, true, true, true, true, false, false, false, false, false, false] rfl rfl (by kernel_rfl) (fun _ _ _ h => h) (Or.inl ⟨by rfl, ?_⟩) ?_ ?_
  rotate_left
  · intro w'
    go_simp
    with_reducible rfl
  rotate_left
  · simp only [Act.put, List.setIfInBounds_toArray, List.set_cons_zero, List.set_cons_succ, i64_w, i32_w]
    rfl
  refine pure_ (i := 12) (N := some 15) (v := ?_) (a' := ?_) #[true, true, true, true, true, true, true, true, true, true, true, true, true, false, false, false, false, false] rfl rfl (by kernel_rfl) (fun _ _ _ h => h) (Or.inl ⟨by rfl, ?_⟩) ?_ ?_
  rotate_left
  · intro w'
    go_simp
    with_reducible rfl
  rotate_left
  · simp only [Act.put, List.setIfInBounds_toArray, List.set_cons_zero, List.set_cons_succ, i64_w, i32_w]
    rfl
  refine take_ (i := 13) (N := some 16) (v := ?_) (a' := ?_) #[true, true, true, true, true, true, true, true, true, true, true, true, true, true, false, false, false, false] rfl rfl (by kernel_rfl) (fun _ _ _ h => h) (Or.inl ⟨by rfl, ?_⟩) hHeld ?_ ?_
  rotate_left
  · rintro w' ⟨s0, s1, s2⟩
    go_simp
    with_reducible rfl
  rotate_left
  · simp only [Act.put, List.setIfInBounds_toArray, List.set_cons_zero, List.set_cons_succ, i64_w, i32_w]
    rfl
  refine pure_ (i := 14) (N := some 17) (v := ?_) (a' := ?_) #[true, true, true, true, true, true, true, true, true, true, true, true, true, true, true, false, false, false] rfl rfl (by kernel_rfl) (fun _ _ _ h => h) (Or.inl ⟨by rfl, ?_⟩) ?_ ?_
  rotate_left
  · intro w'
    go_simp
    with_reducible rfl
  rotate_left
  · simp only [Act.put, List.setIfInBounds_toArray, List.set_cons_zero, List.set_cons_succ, i64_w, i32_w]
    rfl
  refine pure_ (i := 15) (N := some 18) (v := ?_) (a' := ?_) #[true, true, true, true, true, true, true, true, true, true, true, true, true, true, true, true, false, false] rfl rfl (by kernel_rfl) (fun _ _ _ h => h) (Or.inl ⟨by rfl, ?_⟩) ?_ ?_
  rotate_left
  · intro w'
    go_simp
    with_reducible rfl
  rotate_left
  · simp only [Act.put, List.setIfInBounds_toArray, List.set_cons_zero, List.set_cons_succ, i64_w, i32_w]
    rfl
  refine pure_ (i := 16) (N := some 19) (v := ?_) (a' := ?_) #[true, true, true, true, true, true, true, true, true, true, true, true, true, true, true, true, true, false] rfl rfl (by kernel_rfl) (fun _ _ _ h => h) (Or.inl ⟨by rfl, ?_⟩) ?_ ?_
  rotate_left
  · intro w'
    go_simp
    with_reducible rfl
  rotate_left
  · simp only [Act.put, List.setIfInBounds_toArray, List.set_cons_zero, List.set_cons_succ, i64_w, i32_w]
    rfl
  refine pure_ (i := 17) (N := some 2) (v := ?_) (a' := ?_) #[true, true, true, true, true, true, true, true, true, true, true, true, true, true, true, true, true, true] rfl rfl (by kernel_rfl) (fun _ _ _ h => h) (Or.inl ⟨by rfl, ?_⟩) ?_ ?_
  rotate_left
  · intro w'
    go_simp
    with_reducible rfl
  rotate_left
  · simp only [Act.put, List.setIfInBounds_toArray, List.set_cons_zero, List.set_cons_succ, i64_w, i32_w]
    rfl
  refine done_ (by kernel_rfl) ?_
  go_wp2
  go_ret
  exact ⟨congrArg (fun z => Ending.returned (Value.int .i64 z)) HV.out, rfl⟩

theorem mlen_range {b : List Int} (hB : Bytes b) (h4 : 4 ≤ b.length) : 4 ≤ mlen b ∧ mlen b ≤ 16777219 := by
  have r1 := bytes_rd hB 1 (by omega)
  have r2 := bytes_rd hB 2 (by omega)
  have r3 := bytes_rd hB 3 (by omega)
  change 0 ≤ rd b 1 ∧ rd b 1 ≤ 255 at r1
  change 0 ≤ rd b 2 ∧ rd b 2 ≤ 255 at r2
  change 0 ≤ rd b 3 ∧ rd b 3 ≤ 255 at r3
  unfold mlen
  omega
theorem Only.below' {w w' : World} (p : Nat → Prop) (h : Below w.heap.size w w') : Only p w w' := Only.of_below h
/-- A row of the call's own stays, while blocks that were there ahead of it turn. -/
theorem Only.row {p : Nat → Prop} {w w' : World} {e base : Nat} {v : Value} {xs : List Int} (h : Only p w w') (hr : Kd.R (Kd.int .u8) e w base (fun _ => True) v xs) (hp : ∀ k, p k → k < base) : Kd.R (Kd.int .u8) e w' base (fun _ => True) v xs :=
  Kd.R_mono (Kd.R_step (Kd.R_mono (Kd.R_bound hr) (fun _ hk => hk.2.1 : ∀ k, _ → base ≤ k)) (fun k hk hlt => h.block k hlt (fun e => by have := hp k e; omega))) (fun _ _ => trivial)
def NextPost (w w' : World) (sb : Nat) (m : Option Nat) (t : Int) (F : Fn) (n : Nat) (e : Ending) : Prop :=
  ∃ v, e = .returned (.tuple #[v, .int .i64 (nextR F t).2]) ∧ Kd.R (Kd.int .u8) 5 w' w.heap.size (fun _ => True) v (nextR F t).1 ∧ St w' sb m (t + ((nextR F t).1.length : Nat)) (cut F t (nextR F t).1.length) n ∧ Only (fun k => k = sb ∨ some k = m) w w'
theorem NextPost.bad {w w' : World} {sb : Nat} {m : Option Nat} {t : Int} {F : Fn} {n : Nat} (hS : St w sb m t F n) (hb : Below w.heap.size w w') (e : Int) (he : nextR F t = ([], e)) : NextPost w w' sb m t F n (.returned (.tuple #[.slice none 0 0, .int .i64 e])) := by
  unfold NextPost
  rw [he]
  refine ⟨_, rfl, Kd.R_nil _ _ _ _ _, ?_, Only.of_below hb⟩
  have h := hS.only (Only.of_below hb : Only (fun _ => False) w w') (fun h => h) (fun _ _ h => h)
  simpa [cut_zero] using h
set_option maxHeartbeats 4000000 in
set_option maxRecDepth 100000 in
theorem next_short {w : World} {sb : Nat} {m : Option Nat} {t : Int} {F : Fn} {n : Nat} (hS : St w sb m t F n) (ht : 0 ≤ t) (ht' : t ≤ 549755813888) (h4 : (front F t 4).length < 4) :
    Calls Try.prog 22 #[.pointer (some ⟨sb, 0, none⟩)] w fun e w' => NextPost w w' sb m t F n e := by
  have he : nextR F t = ([], 2) := by unfold nextR; rw [if_pos h4]
  have HS := Aside0.mk hS
  have HE := Aside0.mk he
  have H1 : Calls Try.prog 48 #[.pointer (some ⟨sb, 0, none⟩), .int .i64 4] w _ := front_calls hS 4 (by omega) ht (by omega)
  have d0 : decide (((front F t 4).length : Int) < 4) = true := decide_eq_true (by omega)
  have d1 : decide ((front F t 4).length < 4) = true := decide_eq_true (by omega)
  clear hS ht ht' he h4
  generalize front F t 4 = fr at *
  go_enter Try.func22, Try.ntmps22
  go_wp2_with (go_at_call 48; refine H1.mono ?_; rintro e1 w1 ⟨v1, rfl, ho1, hb1⟩; obtain ⟨A1, c1, e1⟩ := Kd.R_slice ho1; subst e1; have B1 := Aside0.mk hb1; clear hb1 ho1)
  go_ret2
  exact NextPost.bad HS.out B1.out 2 HE.out
set_option maxHeartbeats 4000000 in
set_option maxRecDepth 100000 in
theorem next_long {w : World} {sb : Nat} {m : Option Nat} {t : Int} {F : Fn} {n : Nat} (hS : St w sb m t F n) (hF : FB F) (ht : 0 ≤ t) (ht' : t ≤ 549755813888) (h4 : ¬ (front F t 4).length < 4) (h5 : mlen (front F t 4) > 2004) :
    Calls Try.prog 22 #[.pointer (some ⟨sb, 0, none⟩)] w fun e w' => NextPost w w' sb m t F n e := by
  have he : nextR F t = ([], 4) := by unfold nextR; rw [if_neg h4, if_pos h5]
  have HS := Aside0.mk hS
  have HE := Aside0.mk he
  have HB := Aside0.mk (front_bytes hF 4 t)
  have H1 : Calls Try.prog 48 #[.pointer (some ⟨sb, 0, none⟩), .int .i64 4] w _ := front_calls hS 4 (by omega) ht (by omega)
  have d0 : decide (((front F t 4).length : Int) < 4) = false := decide_eq_false (by omega)
  have d1 : decide ((front F t 4).length < 4) = false := decide_eq_false (by omega)
  have H4 := Aside0.mk (show 4 ≤ (front F t 4).length by omega)
  have d2 : decide (2004 < mlen (front F t 4)) = true := decide_eq_true (by omega)
  clear hS ht ht' he h4 h5 hF
  generalize front F t 4 = fr at *
  go_enter Try.func22, Try.ntmps22
  go_wp2_with (first
    | (go_at_call 48; refine H1.mono ?_; rintro e1 w1 ⟨v1, rfl, ho1, hb1⟩; obtain ⟨A1, c1, rfl, l1, k1⟩ := Kd.R_reads ho1; have B1 := Aside0.mk hb1; have K1 := Aside0.mk k1; clear hb1 ho1 k1 l1)
    | (go_at_call 49; refine (long_calls _ _ fr K1.out H4.out HB.out).mono ?_; rintro e2 w2 ⟨rfl, rfl⟩))
  go_ret2
  exact NextPost.bad HS.out B1.out.drew 4 HE.out
set_option maxHeartbeats 4000000 in
set_option maxRecDepth 100000 in
theorem next_cut {w : World} {sb : Nat} {m : Option Nat} {t : Int} {F : Fn} {n : Nat} (hS : St w sb m t F n) (hF : FB F) (ht : 0 ≤ t) (ht' : t ≤ 549755813888) (h4 : ¬ (front F t 4).length < 4) (h5 : ¬ mlen (front F t 4) > 2004)
    (h6 : (front F t (mlen (front F t 4)).toNat).length < (mlen (front F t 4)).toNat) :
    Calls Try.prog 22 #[.pointer (some ⟨sb, 0, none⟩)] w fun e w' => NextPost w w' sb m t F n e := by
  have he : nextR F t = ([], 2) := by unfold nextR; rw [if_neg h4, if_neg h5, if_pos h6]
  have HS := Aside0.mk hS
  have HE := Aside0.mk he
  have HB := Aside0.mk (front_bytes hF 4 t)
  have hr := mlen_range HB.out (by omega)
  have H1 : Calls Try.prog 48 #[.pointer (some ⟨sb, 0, none⟩), .int .i64 4] w _ := front_calls hS 4 (by omega) ht (by omega)
  have d0 : decide (((front F t 4).length : Int) < 4) = false := decide_eq_false (by omega)
  have d1 : decide ((front F t 4).length < 4) = false := decide_eq_false (by omega)
  have H4 := Aside0.mk (show 4 ≤ (front F t 4).length by omega)
  have HT := Aside0.mk ht
  have HT' := Aside0.mk ht'
  generalize front F t 4 = fr at *
  obtain ⟨N, hN⟩ : ∃ N : Nat, mlen fr = N := ⟨(mlen fr).toNat, by omega⟩
  rw [hN, Int.toNat_natCast] at h6
  have d2 : decide (2004 < (N : Int)) = false := decide_eq_false (by omega)
  have d2' : decide (2004 < N) = false := decide_eq_false (by omega)
  have d3 : decide (((front F t N).length : Int) < (N : Int)) = true := decide_eq_true (by omega)
  have d3' : decide ((front F t N).length < N) = true := decide_eq_true (by omega)
  have HL : ∀ (w : World) (A : Option Addr) (c : Nat), Kd.C (Kd.int .u8) w A fr.length fr → Calls Try.prog 49 #[.slice A fr.length c] w fun e w' => e = .returned (.int .i64 (N : Int)) ∧ w' = w.drew := fun w A c hC => by
    have h := long_calls A c fr hC H4.out HB.out
    rwa [hN] at h
  have HN := Aside0.mk (show N ≤ 1099511627776 by omega)
  clear hS ht ht' he h4 h5 h6 hr hF hN
  go_enter Try.func22, Try.ntmps22
  go_wp2_with (first
    | (go_at_call 48; refine H1.mono ?_; rintro e1 w1 ⟨v1, rfl, ho1, hb1⟩; obtain ⟨A1, c1, rfl, l1, k1⟩ := Kd.R_reads ho1; have HS1 := Aside0.mk (HS.out.only (Only.of_below hb1 : Only (fun _ => False) w w1) (fun h => h) (fun _ _ h => h)); have B1 := Aside0.mk hb1; have K1 := Aside0.mk k1; clear hb1 ho1 k1 l1 H1)
    | (go_at_call 49; refine (HL w1 _ _ K1.out).mono ?_; rintro e2 w2 ⟨rfl, hw2⟩; have HS2 := Aside0.mk (show St w2 sb m t F n by rw [hw2]; exact HS1.out.drew); have B2 := Aside0.mk (show Below w.heap.size w w2 by rw [hw2]; exact B1.out.drew); clear hw2 HL)
    | (go_at_call 48; refine (front_calls HS2.out N HN.out HT.out (by have := HT'.out; omega)).mono ?_; rintro e3 w3 ⟨v3, rfl, ho3, hb3⟩; obtain ⟨A3, c3, e3⟩ := Kd.R_slice ho3; subst e3; have B3 := Aside0.mk (below_step B2.out hb3); clear hb3 ho3))
  go_ret2
  exact NextPost.bad HS.out B3.out 2 HE.out
set_option maxHeartbeats 4000000 in
set_option maxRecDepth 100000 in
theorem next_ok {w : World} {sb b : Nat} {t : Int} {F : Fn} {n : Nat} (hS : St w sb (some b) t F n) (hF : FB F) (ht : 0 ≤ t) (ht' : t ≤ 549755813888) (h4 : ¬ (front F t 4).length < 4) (h5 : ¬ mlen (front F t 4) > 2004)
    (h6 : ¬ (front F t (mlen (front F t 4)).toNat).length < (mlen (front F t 4)).toNat) :
    Calls Try.prog 22 #[.pointer (some ⟨sb, 0, none⟩)] w fun e w' => NextPost w w' sb (some b) t F n e := by
  have he : nextR F t = (front F t (mlen (front F t 4)).toNat, 0) := by unfold nextR; rw [if_neg h4, if_neg h5, if_neg h6]
  have HS := Aside0.mk hS
  have HB := Aside0.mk (front_bytes hF 4 t)
  have hr := mlen_range HB.out (by omega)
  have H1 : Calls Try.prog 48 #[.pointer (some ⟨sb, 0, none⟩), .int .i64 4] w _ := front_calls hS 4 (by omega) ht (by omega)
  have d0 : decide (((front F t 4).length : Int) < 4) = false := decide_eq_false (by omega)
  have d1 : decide ((front F t 4).length < 4) = false := decide_eq_false (by omega)
  have H4 := Aside0.mk (show 4 ≤ (front F t 4).length by omega)
  have HT := Aside0.mk ht
  have HT' := Aside0.mk ht'
  generalize front F t 4 = fr at *
  obtain ⟨N, hN⟩ : ∃ N : Nat, mlen fr = N := ⟨(mlen fr).toNat, by omega⟩
  rw [hN, Int.toNat_natCast] at h6 he
  have HE := Aside0.mk he
  have HLEN := Aside0.mk (show (front F t N).length = N by have := front_le F N t; omega)
  have d2 : decide (2004 < (N : Int)) = false := decide_eq_false (by omega)
  have d2' : decide (2004 < N) = false := decide_eq_false (by omega)
  have HL : ∀ (w : World) (A : Option Addr) (c : Nat), Kd.C (Kd.int .u8) w A fr.length fr → Calls Try.prog 49 #[.slice A fr.length c] w fun e w' => e = .returned (.int .i64 (N : Int)) ∧ w' = w.drew := fun w A c hC => by
    have h := long_calls A c fr hC H4.out HB.out
    rwa [hN] at h
  have HN := Aside0.mk (show N ≤ 2004 by omega)
  clear hS ht ht' he h4 h5 h6 hr hF hN
  go_enter Try.func22, Try.ntmps22
  go_wp2_with (first
    | (go_at_call 48; refine H1.mono ?_; rintro e1 w1 ⟨v1, rfl, ho1, hb1⟩; obtain ⟨A1, c1, rfl, l1, k1⟩ := Kd.R_reads ho1; have HS1 := Aside0.mk (HS.out.only (Only.of_below hb1 : Only (fun _ => False) w w1) (fun h => h) (fun _ _ h => h)); have B1 := Aside0.mk hb1; have K1 := Aside0.mk k1; clear hb1 ho1 k1 l1 H1)
    | (go_at_call 49; refine (HL w1 _ _ K1.out).mono ?_; rintro e2 w2 ⟨rfl, hw2⟩; have HS2 := Aside0.mk (show St w2 sb (some b) t F n by rw [hw2]; exact HS1.out.drew); have B2 := Aside0.mk (show Below w.heap.size w w2 by rw [hw2]; exact B1.out.drew); clear hw2 HL)
    | (go_at_call 48; refine (front_calls HS2.out N (by have := HN.out; omega) HT.out (by have := HT'.out; omega)).mono ?_; rintro e3 w3 ⟨v3, rfl, ho3, hb3⟩; obtain ⟨A3, c3, e3⟩ := Kd.R_slice ho3; subst e3; have HS3 := Aside0.mk (HS2.out.only (Only.of_below hb3 : Only (fun _ => False) w2 w3) (fun h => h) (fun _ _ h => h)); have B3 := Aside0.mk (below_step B2.out hb3);
       have ho3' := Kd.R_lower ho3 (below_size B2.out); rw [HLEN.out] at ho3'; have HO3 := Aside0.mk ho3'; clear ho3'; (try rw [HLEN.out]); clear hb3 ho3 B2 HS2 B1 HS1 K1 H4))
  clear d0 d1 d2 d2'
  go_loopg [27] N (fun gg v27 wr => ∃ kk : Nat, kk ≤ N ∧ N - kk ≤ gg ∧ v27 = .int .i64 kk ∧ St wr sb (some b) (t + kk) (cut F t kk) n ∧ Only (fun k => k = sb ∨ some k = some b) w3 wr)
  case atStart => exact ⟨0, Nat.zero_le _, by omega, rfl, by rw [cut_zero]; simpa using HS3.out, Only.refl _ _⟩
  case round =>
    obtain ⟨kk, hkk, hg, rfl, hS, hO⟩ := hrel
    have c0 := hS.c0
    have c1 := hS.c1
    have HSr := Aside0.mk hS
    have HOr := Aside0.mk hO
    clear hS hO
    by_cases hlt : kk < N
    · have hltz : (kk : Int) < (N : Int) := by omega
      have h1 := HT.out
      have h2 := HT'.out
      have h3 := HN.out
      have HW := Aside0.mk (show (Lit.int .i64 (t + (kk : Int))).wf = true from wf64 (by omega) (by omega))
      have EK := Aside0.mk (show wrap64 (t + (kk : Int) + 1) = t + ((kk + 1 : Nat) : Int) by unfold wrap64; omega)
      have EK2 := Aside0.mk (show wrap64 ((kk : Int) + 1) = ((kk + 1 : Nat) : Int) by unfold wrap64; omega)
      clear h1 h2 h3
      go_wp2
      refine start_ (n := 9) (S := fun w' => w'.cell? ⟨sb, 0, none⟩ = some (.int .i64 (t + (kk : Int))) ∧ w'.cell? ⟨sb, 1, none⟩ = some (.map (some b))) (ds := [8]) #[false, false, false, false, false, false, false, false, false] (by kernel_rfl) rfl rfl ⟨c0, c1⟩ (fun hHeld => ?_)
      refine pure_ (i := 0) (N := some 29) (v := ?_) (a' := ?_) #[true, false, false, false, false, false, false, false, false] rfl rfl (by kernel_rfl) (fun _ _ _ h => h) (Or.inl ⟨by rfl, ?_⟩) ?_ ?_
      rotate_left
      · intro w'
        go_simp
        with_reducible rfl
      rotate_left
      · simp only [Act.put, List.setIfInBounds_toArray, List.set_cons_zero, List.set_cons_succ, i64_w, i32_w]
        rfl
      refine pure_ (i := 1) (N := some 30) (v := ?_) (a' := ?_) #[true, true, false, false, false, false, false, false, false] rfl rfl (by kernel_rfl) (fun _ _ _ h => h) (Or.inl ⟨by rfl, ?_⟩) ?_ ?_
      rotate_left
      · intro w'
        go_simp
        with_reducible rfl
      rotate_left
      · simp only [Act.put, List.setIfInBounds_toArray, List.set_cons_zero, List.set_cons_succ, i64_w, i32_w]
        rfl
      refine pure_ (i := 2) (N := some 31) (v := ?_) (a' := ?_) #[true, true, true, false, false, false, false, false, false] rfl rfl (by kernel_rfl) (fun _ _ _ h => h) (Or.inl ⟨by rfl, ?_⟩) ?_ ?_
      rotate_left
      · intro w'
        go_simp
        with_reducible rfl
      rotate_left
      · simp only [Act.put, List.setIfInBounds_toArray, List.set_cons_zero, List.set_cons_succ, i64_w, i32_w]
        rfl
      refine take_ (i := 3) (N := some 32) (v := ?_) (a' := ?_) #[true, true, true, true, false, false, false, false, false] rfl rfl (by kernel_rfl) (fun _ _ _ h => h) (Or.inl ⟨by rfl, ?_⟩) hHeld ?_ ?_
      rotate_left
      · rintro w' ⟨s0, s1⟩
        go_simp
        with_reducible rfl
      rotate_left
      · simp only [Act.put, List.setIfInBounds_toArray, List.set_cons_zero, List.set_cons_succ, i64_w, i32_w]
        rfl
      refine pure_ (i := 4) (N := some 33) (v := ?_) (a' := ?_) #[true, true, true, true, true, false, false, false, false] rfl rfl (by kernel_rfl) (fun _ _ _ h => h) (Or.inl ⟨by rfl, ?_⟩) ?_ ?_
      rotate_left
      · intro w'
        go_simp
        with_reducible rfl
      rotate_left
      · simp only [Act.put, List.setIfInBounds_toArray, List.set_cons_zero, List.set_cons_succ, i64_w, i32_w]
        rfl
      refine pure_ (i := 5) (N := some 34) (v := ?_) (a' := ?_) #[true, true, true, true, true, true, false, false, false] rfl rfl (by kernel_rfl) (fun _ _ _ h => h) (Or.inl ⟨by rfl, ?_⟩) ?_ ?_
      rotate_left
      · intro w'
        go_simp
        with_reducible rfl
      rotate_left
      · simp only [Act.put, List.setIfInBounds_toArray, List.set_cons_zero, List.set_cons_succ, i64_w, i32_w]
        rfl
      refine pure_ (i := 6) (N := some 35) (v := ?_) (a' := ?_) #[true, true, true, true, true, true, true, false, false] rfl rfl (by kernel_rfl) (fun _ _ _ h => h) (Or.inl ⟨by rfl, ?_⟩) ?_ ?_
      rotate_left
      · intro w'
        go_simp
        with_reducible rfl
      rotate_left
      · simp only [Act.put, List.setIfInBounds_toArray, List.set_cons_zero, List.set_cons_succ, i64_w, i32_w]
        rfl
      refine take_ (i := 7) (N := some 36) (v := ?_) (a' := ?_) #[true, true, true, true, true, true, true, true, false] rfl rfl (by kernel_rfl) (fun _ _ _ h => h) (Or.inl ⟨by rfl, ?_⟩) hHeld ?_ ?_
      rotate_left
      · rintro w' ⟨s0, s1⟩
        go_simp
        with_reducible rfl
      rotate_left
      · simp only [Act.put, List.setIfInBounds_toArray, List.set_cons_zero, List.set_cons_succ, i64_w, i32_w]
        rfl
      refine last_ (i := 8) (N := none) #[true, true, true, true, true, true, true, true, true] rfl rfl (by kernel_rfl) (by decide) (fun K hK => ?_)
      obtain ⟨w4, hrun, hM2, hT2⟩ := HSr.out.drew.mp.del_run HW.out 0
      refine value_ (w1 := w4) (v := .tuple #[]) (by rfl) rfl (delete_value (.tmp 32) (.tmp 36) rfl rfl rfl hrun) ?_
      refine hK.out _ _ ?_
      clear hK K
      refine done_ (by kernel_rfl) ?_
      have HS4 := HSr.out.drew.turned hM2 hT2
      have f0 := HS4.f0
      have e0 := HS4.c0
      have HO4 := Aside0.mk (HOr.out.drew.turned hT2 (Or.inl (Or.inr rfl)))
      have HS5 := Aside0.mk HS4
      clear hM2 hT2 HS4 hrun c0 c1 hHeld HSr HOr
      go_wp2
      go_roundg (N - (kk + 1))
      case measure => omega
      case rel => exact ⟨kk + 1, by omega, by omega, by rw [EK2.out], by
        first
          | (rw [EK.out, cut_succ]; exact HS5.out.setT _)
          | (rw [cut_succ]; have h_ := HS5.out.setT (t + ((kk + 1 : Nat) : Int)); rw [← EK.out] at h_ ⊢; exact h_), HO4.out.setCell (Or.inl rfl) _⟩
    · have hltz : ¬ (kk : Int) < (N : Int) := by omega
      obtain rfl : kk = N := by omega
      go_wp2
      go_ret2
      unfold NextPost
      rw [HE.out]
      refine ⟨.slice A3 kk c3, rfl, HOr.out.row HO3.out ?_, by rw [HLEN.out]; exact HSr.out, (Only.of_below B3.out).trans HOr.out⟩
      intro k hk
      rcases hk with rfl | hk
      · exact HS.out.lt
      · cases hk
        exact HS.out.mlt
theorem next_calls {w : World} {sb : Nat} {m : Option Nat} {t : Int} {F : Fn} {n : Nat} (hS : St w sb m t F n) (hF : FB F) (ht : 0 ≤ t) (ht' : t ≤ 549755813888) :
    Calls Try.prog 22 #[.pointer (some ⟨sb, 0, none⟩)] w fun e w' => NextPost w w' sb m t F n e := by
  by_cases h4 : (front F t 4).length < 4
  · exact next_short hS ht ht' h4
  by_cases h5 : mlen (front F t 4) > 2004
  · exact next_long hS hF ht ht' h4 h5
  by_cases h6 : (front F t (mlen (front F t 4)).toNat).length < (mlen (front F t 4)).toNat
  · exact next_cut hS hF ht ht' h4 h5 h6
  · cases m with
    | none =>
      refine absurd ?_ h4
      rw [front_none F t 4 (hS.mp t (wf64 (by omega) (by omega)))]
      simp
    | some b => exact next_ok hS hF ht ht' h4 h5 h6
end Go.Proofs.Ytbcleckapamicaa.Stm
