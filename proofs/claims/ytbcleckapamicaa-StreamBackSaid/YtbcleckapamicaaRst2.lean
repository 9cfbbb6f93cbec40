/- The document's Put, walked. Written by mk-rst2.py (a program of this session). -/
import Derived.Test.YtbcleckapamicaaRst1
namespace Go.Proofs.Ytbcleckapamicaa.Rst
open Go Go.RowKit Go.Proofs.YtbcleckapamicaaW.PrintWords Go.Proofs.YtbcleckapamicaaW.PrintLast Go.Proofs.YtbcleckapamicaaW.PrintMore
open Go.Proofs.Ytbcleckapamicaa.Stm (Bytes bytes_rd Only info5 wf64 putE putF fits fits_succ stored_zero stored_put stored_skip)
set_option linter.unusedVariables false
set_option linter.unusedSimpArgs false

theorem grow_trans {w wd : World} {v v' v'' : Value} (h : Grow w v v') (h2 : Grow wd v' v'') (hw : w.heap.size ≤ wd.heap.size) : Grow w v v'' := by
  intro k hk
  rcases h2 k hk with e | e
  · exact h k e
  · exact Or.inr (Nat.le_trans hw e)
theorem only_trans {w wd W : World} {rb : Nat} {va vb va' vb' : Value} (h : Only (fun k => k = rb ∨ own2 va vb k) w wd) (ga : Grow w va va') (gb : Grow w vb vb') (h2 : Only (fun k => k = rb ∨ own2 va' vb' k) wd W) : Only (fun k => k = rb ∨ own2 va vb k) w W := by
  refine ⟨h2.os.trans h.os, h2.tape.trans h.tape, h2.output.trans h.output, Nat.le_trans h.size h2.size, fun k hk hn => (h2.block k (Nat.lt_of_lt_of_le hk h.size) (fun e => hn ?_)).trans (h.block k hk hn)⟩
  rcases e with e | e | e
  · exact Or.inl e
  · rcases ga _ e with q | q
    · exact Or.inr (Or.inl q)
    · omega
  · rcases gb _ e with q | q
    · exact Or.inr (Or.inr q)
    · omega
theorem bytes_snoc {l : List Int} {x : Int} (h : Bytes l) (hx : 0 ≤ x ∧ x ≤ 255) : Bytes (l ++ [x]) := fun y hy => by
  rcases List.mem_append.1 hy with h' | h'
  · exact h y h'
  · rw [List.mem_singleton.1 h']; exact hx
def RAfter (w w' : World) (base rb : Nat) (t : Int) (va vb : Value) (G : Stm.Fn) (N : Nat) : Prop :=
  ∃ ks' bs' va' vb', Sr w' base rb t ks' bs' va' vb' ∧ FR ks' bs' = G ∧ ks'.length ≤ N ∧ Grow w va va' ∧ Grow w vb vb' ∧ Only (fun k => k = rb ∨ own2 va vb k) w w'
theorem stored_same (F : Stm.Fn) (t p : Int) (l : List Int) (j : Nat) (h : t ≤ p + j) (e : Stm.stored F t p l j (p + j) = some (rd l j)) : Stm.stored F t p l (j + 1) = Stm.stored F t p l j := by
  rw [stored_put F t p l j h]
  funext k
  by_cases q : k = p + j
  · subst q
    rw [if_pos rfl, e]
  · rw [if_neg q]
theorem stored_at (F : Stm.Fn) (t p : Int) (l : List Int) (j : Nat) : Stm.stored F t p l j (p + j) = F (p + j) := by
  unfold Stm.stored
  rw [if_neg (by omega)]

set_option maxHeartbeats 1000000 in
theorem rput_bad (w : World) (rb : Nat) (A : Option Addr) (c : Nat) (l : List Int) (p : Int) (hp : p < 0 ∨ p > 1073741824) :
    Calls Try.prog 26 #[.pointer (some ⟨rb, 0, none⟩), .int .i64 p, .slice A l.length c] w fun e w' => e = .returned (.int .i64 1) ∧ w' = w := by
  by_cases h0 : p < 0
  · have d0 : decide (p < 0) = true := decide_eq_true h0
    clear hp h0
    go_enter Try.func26, Try.ntmps26
    go_wp2
    go_ret
    exact ⟨rfl, rfl⟩
  · have d0 : decide (p < 0) = false := decide_eq_false h0
    have d1 : decide (1073741824 < p) = true := decide_eq_true (by omega)
    clear hp h0
    go_enter Try.func26, Try.ntmps26
    go_wp2
    go_ret
    exact ⟨rfl, rfl⟩

set_option maxHeartbeats 2000000 in
set_option maxRecDepth 100000 in
theorem rput_long {w : World} {rb : Nat} {t : Int} (c0 : w.cell? ⟨rb, 0, none⟩ = some (.int .i64 t)) (A : Option Addr) (c : Nat) (l : List Int) (p : Int) (h0 : 0 ≤ p) (h1 : p ≤ 1073741824) (ht : 0 ≤ t) (ht' : t ≤ 549755813888) (hl : l.length ≤ 1000000)
    (h2 : 0 < l.length ∧ p + l.length - t > 4096) :
    Calls Try.prog 26 #[.pointer (some ⟨rb, 0, none⟩), .int .i64 p, .slice A l.length c] w fun e w' => e = .returned (.int .i64 4) ∧ w' = w := by
  have d0 : decide (p < 0) = false := decide_eq_false (by omega)
  have d1 : decide (1073741824 < p) = false := decide_eq_false (by omega)
  have BD := Aside0.mk (And.intro h0 (And.intro h1 (And.intro ht (And.intro ht' (And.intro hl h2)))))
  clear h0 h1 ht ht' hl h2
  go_enter Try.func26, Try.ntmps26
  go_wp2
  clear d0 d1
  go_loopg [7] l.length (fun gg v7 wr => ∃ kk : Nat, kk ≤ l.length ∧ l.length - kk ≤ gg ∧ v7 = .int .i64 kk ∧ Aside0 (kk = 0 ∨ p + kk - 1 - t < 4096) ∧ wr = w)
  case atStart => exact ⟨0, Nat.zero_le _, by omega, rfl, ⟨Or.inl rfl⟩, rfl⟩
  case round =>
    obtain ⟨kk, hkk, hg, rfl, HK, hw⟩ := hrel
    subst wr
    obtain ⟨b0, b1, b2, b3, b4, b5, b6⟩ := BD.out
    have hk0 := HK.out
    by_cases hlt : kk < l.length
    · have hltz : (kk : Int) < (l.length : Int) := by omega
      have ek : wrap64 (wrap64 (p + (kk : Int)) - t) = p + (kk : Int) - t := by unfold wrap64; omega
      have EW := Aside0.mk (show wrap64 ((kk : Int) + 1) = ((kk + 1 : Nat) : Int) by unfold wrap64; omega)
      by_cases hge : 4096 ≤ p + (kk : Int) - t
      · have d2 : decide (4096 ≤ wrap64 (wrap64 (p + (kk : Int)) - t)) = true := decide_eq_true (by rw [ek]; exact hge)
        have d3 : decide (4096 ≤ p + (kk : Int) - t) = true := decide_eq_true hge
        clear b0 b1 b2 b3 b4 b5 b6 hk0 hge
        go_wp2
        go_ret
        exact ⟨rfl, rfl⟩
      · have d2 : decide (4096 ≤ wrap64 (wrap64 (p + (kk : Int)) - t)) = false := decide_eq_false (by rw [ek]; exact hge)
        have d3 : decide (4096 ≤ p + (kk : Int) - t) = false := decide_eq_false hge
        have HGE := Aside0.mk hge
        clear b0 b1 b2 b3 b4 b5 b6 hk0 hge ek
        go_wp2
        go_roundg (l.length - (kk + 1))
        case measure => omega
        case rel => exact ⟨kk + 1, by omega, by omega, by rw [EW.out], ⟨Or.inr (by have := HGE.out; omega)⟩, rfl⟩
    · exact absurd hk0 (by omega)

set_option maxHeartbeats 4000000 in
set_option maxRecDepth 100000 in
theorem rput_conflict {w : World} {base rb : Nat} {t : Int} {ks bs : List Int} {va vb : Value} (hS : Sr w base rb t ks bs va vb) (A : Option Addr) (c : Nat) (l : List Int) (p : Int) (hC : Kd.C (Kd.int .u8) w A l.length l) (hB : Bytes l) (h0 : 0 ≤ p) (h1 : p ≤ 1073741824) (ht : 0 ≤ t) (ht' : t ≤ 549755813888) (hl : l.length ≤ 1000000) (hk : ks.length ≤ 1000000)
    (h2 : ¬ (0 < l.length ∧ p + l.length - t > 4096)) (h3 : ¬ fits (FR ks bs) p l l.length) :
    Calls Try.prog 26 #[.pointer (some ⟨rb, 0, none⟩), .int .i64 p, .slice A l.length c] w fun e w' => e = .returned (.int .i64 12) ∧ w' = w := by
  have d0 : decide (p < 0) = false := decide_eq_false (by omega)
  have d1 : decide (1073741824 < p) = false := decide_eq_false (by omega)
  have c0 := hS.c0
  have HS := Aside0.mk hS
  have HC := Aside0.mk hC
  have HB := Aside0.mk hB
  have H3 := Aside0.mk h3
  have BD := Aside0.mk (And.intro h0 (And.intro h1 (And.intro ht (And.intro ht' (And.intro hl (And.intro hk h2))))))
  clear hS hC hB h3 h0 h1 ht ht' hl hk h2
  go_enter Try.func26, Try.ntmps26
  go_wp2
  clear d0 d1
  go_loopg [7] l.length (fun gg v7 wr => ∃ kk : Nat, kk ≤ l.length ∧ l.length - kk ≤ gg ∧ v7 = .int .i64 kk ∧ wr = w)
  case atStart => exact ⟨0, Nat.zero_le _, by omega, rfl, rfl⟩
  case round =>
    obtain ⟨kk, hkk, hg, rfl, hw⟩ := hrel
    subst wr
    obtain ⟨b0, b1, b2, b3, b4, b5, b6⟩ := BD.out
    by_cases hlt : kk < l.length
    · have hltz : (kk : Int) < (l.length : Int) := by omega
      have ek : wrap64 (wrap64 (p + (kk : Int)) - t) = p + (kk : Int) - t := by unfold wrap64; omega
      have EW := Aside0.mk (show wrap64 ((kk : Int) + 1) = ((kk + 1 : Nat) : Int) by unfold wrap64; omega)
      have d2 : decide (4096 ≤ wrap64 (wrap64 (p + (kk : Int)) - t)) = false := decide_eq_false (by rw [ek]; omega)
      have d3 : decide (4096 ≤ p + (kk : Int) - t) = false := decide_eq_false (by omega)
      clear b0 b1 b2 b3 b4 b5 b6 ek
      go_wp2
      go_roundg (l.length - (kk + 1))
      case measure => omega
      case rel => exact ⟨kk + 1, by omega, by omega, by rw [EW.out], rfl⟩
    clear b0 b1 b2 b3 b4 b5 b6
    have hltz : ¬ (kk : Int) < (l.length : Int) := by omega
    go_wp2
    clear hkk hg hlt hltz
    go_loopg [8] l.length (fun gg v8 wr => ∃ kk : Nat, kk ≤ l.length ∧ l.length - kk ≤ gg ∧ v8 = .int .i64 kk ∧ Aside0 (fits (FR ks bs) p l kk) ∧ wr = w)
    case atStart => exact ⟨0, Nat.zero_le _, by omega, rfl, ⟨fun i hi => by omega⟩, rfl⟩
    case round =>
    obtain ⟨kk, hkk, hg, rfl, HF, hw⟩ := hrel
    subst wr
    by_cases hlt : kk < l.length
    · have hltz : (kk : Int) < (l.length : Int) := by omega
      obtain ⟨b0, b1, b2, b3, b4, b5, b6⟩ := BD.out
      obtain ⟨ad, rfl, hcell⟩ := Kd.at_int HC.out (kk : Int) (by omega) hltz
      rw [Int.toNat_natCast] at hcell
      have ek : wrap64 (p + (kk : Int)) = p + (kk : Int) := by unfold wrap64; omega
      have EW := Aside0.mk (show wrap64 ((kk : Int) + 1) = ((kk + 1 : Nat) : Int) by unfold wrap64; omega)
      have hy8 := bytes_rd HB.out kk hlt
      have H51 := held_calls HS.out (wrap64 (p + (kk : Int))) (by omega)
      obtain ⟨z, hz⟩ : ∃ z, held ks bs (p + (kk : Int)) = z := ⟨_, rfl⟩
      rw [show held ks bs (wrap64 (p + (kk : Int))) = z by rw [ek]; exact hz] at H51
      have ey : wrap64 (rd l (kk : Int)) = rd l (kk : Int) := by unfold wrap64; omega
      clear b0 b1 b2 b3 b4 b5 b6 ek
      obtain ⟨y, hy⟩ : ∃ y, rd l (kk : Int) = y := ⟨_, rfl⟩
      have HY := Aside0.mk hy
      rw [hy] at hcell ey
      by_cases hzn : z < 0
      · have d4 : decide (0 ≤ z) = false := decide_eq_false (by omega)
        have HN := Aside0.mk (show FR ks bs (p + (kk : Int)) = none by unfold FR; rw [hz, if_pos hzn])
        clear hz hzn hy hy8
        go_wp2_with (go_at_call 51; refine H51.mono ?_; rintro e1 w1 ⟨rfl, hw1⟩; replace hw1 := hw1.symm; subst hw1)
        go_roundg (l.length - (kk + 1))
        case measure => omega
        case rel => exact ⟨kk + 1, by omega, by omega, by rw [EW.out], ⟨fits_succ HF.out (fun c hc => by rw [HN.out] at hc; cases hc)⟩, rfl⟩
      · have d4 : decide (0 ≤ z) = true := decide_eq_true (by omega)
        have HZS := Aside0.mk (show FR ks bs (p + (kk : Int)) = some z by unfold FR; rw [hz, if_neg hzn])
        by_cases hzy : z = y
        · have q1 : (z != y) = false := by simp [hzy]
          have q2 : (z == y) = true := by simp [hzy]
          have HZY := Aside0.mk hzy
          clear hz hzn hy hy8 hzy
          go_wp2_with (go_at_call 51; refine H51.mono ?_; rintro e1 w1 ⟨rfl, hw1⟩; replace hw1 := hw1.symm; subst hw1)
          go_roundg (l.length - (kk + 1))
          case measure => omega
          case rel => exact ⟨kk + 1, by omega, by omega, by rw [EW.out], ⟨fits_succ HF.out (fun c hc => by rw [HZS.out] at hc; rw [HY.out, ← HZY.out]; exact (Option.some.inj hc).symm)⟩, rfl⟩
        · have q1 : (z != y) = true := bne_iff_ne.mpr hzy
          have q2 : (z == y) = false := beq_eq_false_iff_ne.mpr hzy
          clear hzy hz hzn hy hy8
          go_wp2_with (go_at_call 51; refine H51.mono ?_; rintro e1 w1 ⟨rfl, hw1⟩; replace hw1 := hw1.symm; subst hw1)
          go_ret
          exact ⟨rfl, rfl⟩
    · exact absurd (by have : kk = l.length := by omega
                       rw [this] at HF; exact HF.out) H3.out

set_option maxHeartbeats 8000000 in
set_option maxRecDepth 100000 in
theorem rput_ok {w : World} {base rb : Nat} {t : Int} {ks bs : List Int} {va vb : Value} (hS : Sr w base rb t ks bs va vb) (A : Option Addr) (c : Nat) (l : List Int) (p : Int) (hC : Kd.C (Kd.int .u8) w A l.length l) (hB : Bytes l) (h0 : 0 ≤ p) (h1 : p ≤ 1073741824) (ht : 0 ≤ t) (ht' : t ≤ 549755813888) (hl : l.length ≤ 1000000) (hk : ks.length + l.length ≤ 1000000)
    (h2 : ¬ (0 < l.length ∧ p + l.length - t > 4096)) (h3 : fits (FR ks bs) p l l.length) (hsep : 0 < l.length → ∀ ad, A = some ad → ¬ (ad.block = rb ∨ own2 va vb ad.block)) :
    Calls Try.prog 26 #[.pointer (some ⟨rb, 0, none⟩), .int .i64 p, .slice A l.length c] w fun e w' => e = .returned (.int .i64 0) ∧ RAfter w w' base rb t va vb (Stm.stored (FR ks bs) t p l l.length) (ks.length + l.length) := by
  have SEP := Aside0.mk hsep
  clear hsep
  have d0 : decide (p < 0) = false := decide_eq_false (by omega)
  have d1 : decide (1073741824 < p) = false := decide_eq_false (by omega)
  have c0 := hS.c0
  have HS := Aside0.mk hS
  have HC := Aside0.mk hC
  have HB := Aside0.mk hB
  have H3 := Aside0.mk h3
  have BD := Aside0.mk (And.intro h0 (And.intro h1 (And.intro ht (And.intro ht' (And.intro hl (And.intro hk h2))))))
  clear hS hC hB h3 h0 h1 ht ht' hl hk h2
  go_enter Try.func26, Try.ntmps26
  go_wp2
  clear d0 d1
  go_loopg [7] l.length (fun gg v7 wr => ∃ kk : Nat, kk ≤ l.length ∧ l.length - kk ≤ gg ∧ v7 = .int .i64 kk ∧ wr = w)
  case atStart => exact ⟨0, Nat.zero_le _, by omega, rfl, rfl⟩
  case round =>
    obtain ⟨kk, hkk, hg, rfl, hw⟩ := hrel
    subst wr
    obtain ⟨b0, b1, b2, b3, b4, b5, b6⟩ := BD.out
    by_cases hlt : kk < l.length
    · have hltz : (kk : Int) < (l.length : Int) := by omega
      have ek : wrap64 (wrap64 (p + (kk : Int)) - t) = p + (kk : Int) - t := by unfold wrap64; omega
      have EW := Aside0.mk (show wrap64 ((kk : Int) + 1) = ((kk + 1 : Nat) : Int) by unfold wrap64; omega)
      have d2 : decide (4096 ≤ wrap64 (wrap64 (p + (kk : Int)) - t)) = false := decide_eq_false (by rw [ek]; omega)
      have d3 : decide (4096 ≤ p + (kk : Int) - t) = false := decide_eq_false (by omega)
      clear b0 b1 b2 b3 b4 b5 b6 ek
      go_wp2
      go_roundg (l.length - (kk + 1))
      case measure => omega
      case rel => exact ⟨kk + 1, by omega, by omega, by rw [EW.out], rfl⟩
    clear b0 b1 b2 b3 b4 b5 b6
    have hltz : ¬ (kk : Int) < (l.length : Int) := by omega
    go_wp2
    clear hkk hg hlt hltz
    go_loopg [8] l.length (fun gg v8 wr => ∃ kk : Nat, kk ≤ l.length ∧ l.length - kk ≤ gg ∧ v8 = .int .i64 kk ∧ Aside0 (fits (FR ks bs) p l kk) ∧ wr = w)
    case atStart => exact ⟨0, Nat.zero_le _, by omega, rfl, ⟨fun i hi => by omega⟩, rfl⟩
    case round =>
    obtain ⟨kk, hkk, hg, rfl, HF, hw⟩ := hrel
    subst wr
    by_cases hlt : kk < l.length
    · have hltz : (kk : Int) < (l.length : Int) := by omega
      obtain ⟨b0, b1, b2, b3, b4, b5, b6⟩ := BD.out
      obtain ⟨ad, rfl, hcell⟩ := Kd.at_int HC.out (kk : Int) (by omega) hltz
      rw [Int.toNat_natCast] at hcell
      have ek : wrap64 (p + (kk : Int)) = p + (kk : Int) := by unfold wrap64; omega
      have EW := Aside0.mk (show wrap64 ((kk : Int) + 1) = ((kk + 1 : Nat) : Int) by unfold wrap64; omega)
      have hy8 := bytes_rd HB.out kk hlt
      have H51 := held_calls HS.out (wrap64 (p + (kk : Int))) (by omega)
      obtain ⟨z, hz⟩ : ∃ z, held ks bs (p + (kk : Int)) = z := ⟨_, rfl⟩
      rw [show held ks bs (wrap64 (p + (kk : Int))) = z by rw [ek]; exact hz] at H51
      have ey : wrap64 (rd l (kk : Int)) = rd l (kk : Int) := by unfold wrap64; omega
      clear b0 b1 b2 b3 b4 b5 b6 ek
      obtain ⟨y, hy⟩ : ∃ y, rd l (kk : Int) = y := ⟨_, rfl⟩
      have HY := Aside0.mk hy
      rw [hy] at hcell ey
      by_cases hzn : z < 0
      · have d4 : decide (0 ≤ z) = false := decide_eq_false (by omega)
        have HN := Aside0.mk (show FR ks bs (p + (kk : Int)) = none by unfold FR; rw [hz, if_pos hzn])
        clear hz hzn hy hy8
        go_wp2_with (go_at_call 51; refine H51.mono ?_; rintro e1 w1 ⟨rfl, hw1⟩; replace hw1 := hw1.symm; subst hw1)
        go_roundg (l.length - (kk + 1))
        case measure => omega
        case rel => exact ⟨kk + 1, by omega, by omega, by rw [EW.out], ⟨fits_succ HF.out (fun c hc => by rw [HN.out] at hc; cases hc)⟩, rfl⟩
      · have d4 : decide (0 ≤ z) = true := decide_eq_true (by omega)
        have HZS := Aside0.mk (show FR ks bs (p + (kk : Int)) = some z by unfold FR; rw [hz, if_neg hzn])
        by_cases hzy : z = y
        · have q1 : (z != y) = false := by simp [hzy]
          have q2 : (z == y) = true := by simp [hzy]
          have HZY := Aside0.mk hzy
          clear hz hzn hy hy8 hzy
          go_wp2_with (go_at_call 51; refine H51.mono ?_; rintro e1 w1 ⟨rfl, hw1⟩; replace hw1 := hw1.symm; subst hw1)
          go_roundg (l.length - (kk + 1))
          case measure => omega
          case rel => exact ⟨kk + 1, by omega, by omega, by rw [EW.out], ⟨fits_succ HF.out (fun c hc => by rw [HZS.out] at hc; rw [HY.out, ← HZY.out]; exact (Option.some.inj hc).symm)⟩, rfl⟩
        · exact absurd ((H3.out kk hlt z HZS.out).trans hy) hzy
    · have hltz : ¬ (kk : Int) < (l.length : Int) := by omega
      go_wp2
      clear hltz hlt hkk hg HF
      go_loopg [10] l.length (fun gg v10 wr => ∃ (kk : Nat) (ks' bs' : List Int) (va' vb' : Value), kk ≤ l.length ∧ l.length - kk ≤ gg ∧ v10 = .int .i64 kk ∧ Sr wr base rb t ks' bs' va' vb' ∧ Aside0 (FR ks' bs' = Stm.stored (FR ks bs) t p l kk) ∧ ks'.length ≤ ks.length + kk ∧ Grow w va va' ∧ Grow w vb vb' ∧ Only (fun k => k = rb ∨ own2 va vb k) w wr)
      case atStart => exact ⟨0, ks, bs, va, vb, Nat.zero_le _, by omega, rfl, HS.out, ⟨(stored_zero _ _ _ _).symm⟩, by omega, fun _ h => Or.inl h, fun _ h => Or.inl h, Only.refl _ _⟩
      case round =>
        obtain ⟨kk, ks', bs', va', vb', hkk, hg, rfl, hSr, HFR, hkl, hga, hgb, hOr⟩ := hrel
        have c0 := hSr.c0
        have HSr := Aside0.mk hSr
        have HOr := Aside0.mk hOr
        have GA := Aside0.mk hga
        have GB := Aside0.mk hgb
        have KL := Aside0.mk hkl
        clear hSr hga hgb hOr hkl
        by_cases hlt : kk < l.length
        · have hltz : (kk : Int) < (l.length : Int) := by omega
          obtain ⟨b0, b1, b2, b3, b4, b5, b6⟩ := BD.out
          have hkl := KL.out
          obtain ⟨ad, rfl, hcell⟩ := Kd.at_int (HOr.out.reads HC.out (SEP.out (by omega))) (kk : Int) (by omega) hltz
          rw [Int.toNat_natCast] at hcell
          have ek : wrap64 (p + (kk : Int)) = p + (kk : Int) := by unfold wrap64; omega
          have EK := Aside0.mk ek
          have EW := Aside0.mk (show wrap64 ((kk : Int) + 1) = ((kk + 1 : Nat) : Int) by unfold wrap64; omega)
          have HX8 := Aside0.mk (bytes_rd HB.out kk hlt)
          have FIT := Aside0.mk (H3.out kk hlt)
          have H51 := held_calls HSr.out (wrap64 (p + (kk : Int))) (by omega)
          obtain ⟨z, hz⟩ : ∃ z, held ks' bs' (p + (kk : Int)) = z := ⟨_, rfl⟩
          rw [show held ks' bs' (wrap64 (p + (kk : Int))) = z by rw [ek]; exact hz] at H51
          have ALa := Aside0.mk (show (ks'.length + 1) * 8 ≤ 140737488355328 by omega)
          have ALb := Aside0.mk (show (bs'.length + 1) * 1 ≤ 140737488355328 by have := HSr.out.len; omega)
          clear b0 b1 b2 b3 b4 b5 b6 hkl
          by_cases hge : t ≤ p + (kk : Int)
          · have d5 : decide (t ≤ wrap64 (p + (kk : Int))) = true := decide_eq_true (by rw [ek]; exact hge)
            have HGE := Aside0.mk hge
            clear hge ek
            by_cases hzn : z < 0
            · have d6 : decide (z < 0) = true := decide_eq_true hzn
              have HNO := Aside0.mk (show FR ks' bs' (p + (kk : Int)) = none by unfold FR; rw [hz, if_pos hzn])
              have FRN := Aside0.mk (show FR (ks' ++ [wrap64 (p + (kk : Int))]) (bs' ++ [rd l (kk : Int)]) = Stm.stored (FR ks bs) t p l (kk + 1) by
                rw [EK.out, FR_put HSr.out.len HSr.out.by_ HX8.out.1 HNO.out, stored_put _ _ _ _ _ HGE.out, HFR.out])
              clear hz hzn
              obtain ⟨Aa, ca, eva, -, -⟩ := Kd.R_reads HSr.out.ra
              obtain ⟨Ab, cb, evb, -, -⟩ := Kd.R_reads HSr.out.rb_
              subst eva
              subst evb
              have c1 := HSr.out.c1
              have c2 := HSr.out.c2
              generalize rd l (kk : Int) = x at *
              go_wp2_with (go_at_call 51; refine H51.mono ?_; rintro e1 w1 ⟨rfl, hw1⟩; replace hw1 := hw1.symm; subst hw1)
              refine start_ (n := 27) (S := fun w' => w'.cell? ⟨rb, 1, none⟩ = some (.slice Aa ks'.length ca) ∧ w'.cell? ⟨rb, 2, none⟩ = some (.slice Ab bs'.length cb) ∧ w'.cell? (ad.add kk) = some (.int .u8 x)) (ds := [23, 26]) #[false, false, false, false, false, false, false, false, false, false, false, false, false, false, false, false, false, false, false, false, false, false, false, false, false, false, false] (by kernel_rfl) rfl rfl ⟨c1, c2, hcell⟩ (fun hHeld => ?_)
              refine pure_ (i := 0) (N := some 76) (v := ?_) (a' := ?_) #[true, false, false, false, false, false, false, false, false, false, false, false, false, false, false, false, false, false, false, false, false, false, false, false, false, false, false] rfl rfl (by kernel_rfl) (fun _ _ _ h => h) (Or.inl ⟨by rfl, ?_⟩) ?_ ?_
              rotate_left
              · intro w'
                go_simp
                with_reducible rfl
              rotate_left
              · simp only [Act.put, List.setIfInBounds_toArray, List.set_cons_zero, List.set_cons_succ, i64_w, i32_w]
                rfl
              refine pure_ (i := 1) (N := some 77) (v := ?_) (a' := ?_) #[true, true, false, false, false, false, false, false, false, false, false, false, false, false, false, false, false, false, false, false, false, false, false, false, false, false, false] rfl rfl (by kernel_rfl) (fun _ _ _ h => h) (Or.inl ⟨by rfl, ?_⟩) ?_ ?_
              rotate_left
              · intro w'
                go_simp
                with_reducible rfl
              rotate_left
              · simp only [Act.put, List.setIfInBounds_toArray, List.set_cons_zero, List.set_cons_succ, i64_w, i32_w]
                rfl
              refine pure_ (i := 2) (N := some 78) (v := ?_) (a' := ?_) #[true, true, true, false, false, false, false, false, false, false, false, false, false, false, false, false, false, false, false, false, false, false, false, false, false, false, false] rfl rfl (by kernel_rfl) (fun _ _ _ h => h) (Or.inl ⟨by rfl, ?_⟩) ?_ ?_
              rotate_left
              · intro w'
                go_simp
                with_reducible rfl
              rotate_left
              · simp only [Act.put, List.setIfInBounds_toArray, List.set_cons_zero, List.set_cons_succ, i64_w, i32_w]
                rfl
              refine pure_ (i := 3) (N := some 79) (v := ?_) (a' := ?_) #[true, true, true, true, false, false, false, false, false, false, false, false, false, false, false, false, false, false, false, false, false, false, false, false, false, false, false] rfl rfl (by kernel_rfl) (fun _ _ _ h => h) (Or.inl ⟨by rfl, ?_⟩) ?_ ?_
              rotate_left
              · intro w'
                go_simp
                with_reducible rfl
              rotate_left
              · simp only [Act.put, List.setIfInBounds_toArray, List.set_cons_zero, List.set_cons_succ, i64_w, i32_w]
                rfl
              refine pure_ (i := 4) (N := some 80) (v := ?_) (a' := ?_) #[true, true, true, true, true, false, false, false, false, false, false, false, false, false, false, false, false, false, false, false, false, false, false, false, false, false, false] rfl rfl (by kernel_rfl) (fun _ _ _ h => h) (Or.inl ⟨by rfl, ?_⟩) ?_ ?_
              rotate_left
              · intro w'
                go_simp
                with_reducible rfl
              rotate_left
              · simp only [Act.put, List.setIfInBounds_toArray, List.set_cons_zero, List.set_cons_succ, i64_w, i32_w]
                rfl
              refine take_ (i := 5) (N := some 81) (v := ?_) (a' := ?_) #[true, true, true, true, true, true, false, false, false, false, false, false, false, false, false, false, false, false, false, false, false, false, false, false, false, false, false] rfl rfl (by kernel_rfl) (fun _ _ _ h => h) (Or.inl ⟨by rfl, ?_⟩) hHeld ?_ ?_
              rotate_left
              · rintro w' ⟨s0, s1, s2⟩
                go_simp
                with_reducible rfl
              rotate_left
              · simp only [Act.put, List.setIfInBounds_toArray, List.set_cons_zero, List.set_cons_succ, i64_w, i32_w]
                rfl
              refine pure_ (i := 6) (N := some 82) (v := ?_) (a' := ?_) #[true, true, true, true, true, true, true, false, false, false, false, false, false, false, false, false, false, false, false, false, false, false, false, false, false, false, false] rfl rfl (by kernel_rfl) (fun _ _ _ h => h) (Or.inl ⟨by rfl, ?_⟩) ?_ ?_
              rotate_left
              · intro w'
                go_simp
                with_reducible rfl
              rotate_left
              · simp only [Act.put, List.setIfInBounds_toArray, List.set_cons_zero, List.set_cons_succ, i64_w, i32_w]
                rfl
              refine pure_ (i := 7) (N := some 83) (v := ?_) (a' := ?_) #[true, true, true, true, true, true, true, true, false, false, false, false, false, false, false, false, false, false, false, false, false, false, false, false, false, false, false] rfl rfl (by kernel_rfl) (fun _ _ _ h => h) (Or.inl ⟨by rfl, ?_⟩) ?_ ?_
              rotate_left
              · intro w'
                go_simp
                with_reducible rfl
              rotate_left
              · simp only [Act.put, List.setIfInBounds_toArray, List.set_cons_zero, List.set_cons_succ, i64_w, i32_w]
                rfl
              refine pure_ (i := 8) (N := some 84) (v := ?_) (a' := ?_) #[true, true, true, true, true, true, true, true, true, false, false, false, false, false, false, false, false, false, false, false, false, false, false, false, false, false, false] rfl rfl (by kernel_rfl) (fun _ _ _ h => h) (Or.inl ⟨by rfl, ?_⟩) ?_ ?_
              rotate_left
              · intro w'
                go_simp
                with_reducible rfl
              rotate_left
              · simp only [Act.put, List.setIfInBounds_toArray, List.set_cons_zero, List.set_cons_succ, i64_w, i32_w]
                rfl
              refine pure_ (i := 11) (N := some 87) (v := ?_) (a' := ?_) #[true, true, true, true, true, true, true, true, true, false, false, true, false, false, false, false, false, false, false, false, false, false, false, false, false, false, false] rfl rfl (by kernel_rfl) (fun _ _ _ h => h) (Or.inl ⟨by rfl, ?_⟩) ?_ ?_
              rotate_left
              · intro w'
                go_simp
                with_reducible rfl
              rotate_left
              · simp only [Act.put, List.setIfInBounds_toArray, List.set_cons_zero, List.set_cons_succ, i64_w, i32_w]
                rfl
              refine pure_ (i := 12) (N := some 88) (v := ?_) (a' := ?_) #[true, true, true, true, true, true, true, true, true, false, false, true, true, false, false, false, false, false, false, false, false, false, false, false, false, false, false] rfl rfl (by kernel_rfl) (fun _ _ _ h => h) (Or.inl ⟨by rfl, ?_⟩) ?_ ?_
              rotate_left
              · intro w'
                go_simp
                with_reducible rfl
              rotate_left
              · simp only [Act.put, List.setIfInBounds_toArray, List.set_cons_zero, List.set_cons_succ, i64_w, i32_w]
                rfl
              refine pure_ (i := 13) (N := some 89) (v := ?_) (a' := ?_) #[true, true, true, true, true, true, true, true, true, false, false, true, true, true, false, false, false, false, false, false, false, false, false, false, false, false, false] rfl rfl (by kernel_rfl) (fun _ _ _ h => h) (Or.inl ⟨by rfl, ?_⟩) ?_ ?_
              rotate_left
              · intro w'
                go_simp
                with_reducible rfl
              rotate_left
              · simp only [Act.put, List.setIfInBounds_toArray, List.set_cons_zero, List.set_cons_succ, i64_w, i32_w]
                rfl
              refine take_ (i := 14) (N := some 90) (v := ?_) (a' := ?_) #[true, true, true, true, true, true, true, true, true, false, false, true, true, true, true, false, false, false, false, false, false, false, false, false, false, false, false] rfl rfl (by kernel_rfl) (fun _ _ _ h => h) (Or.inl ⟨by rfl, ?_⟩) hHeld ?_ ?_
              rotate_left
              · rintro w' ⟨s0, s1, s2⟩
                go_simp
                with_reducible rfl
              rotate_left
              · simp only [Act.put, List.setIfInBounds_toArray, List.set_cons_zero, List.set_cons_succ, i64_w, i32_w]
                rfl
              refine pure_ (i := 15) (N := some 91) (v := ?_) (a' := ?_) #[true, true, true, true, true, true, true, true, true, false, false, true, true, true, true, true, false, false, false, false, false, false, false, false, false, false, false] rfl rfl (by kernel_rfl) (fun _ _ _ h => h) (Or.inl ⟨by rfl, ?_⟩) ?_ ?_
              rotate_left
              · intro w'
                go_simp
                with_reducible rfl
              rotate_left
              · simp only [Act.put, List.setIfInBounds_toArray, List.set_cons_zero, List.set_cons_succ, i64_w, i32_w]
                rfl
              refine pure_ (i := 16) (N := some 92) (v := ?_) (a' := ?_) #[true, true, true, true, true, true, true, true, true, false, false, true, true, true, true, true, true, false, false, false, false, false, false, false, false, false, false] rfl rfl (by kernel_rfl) (fun _ _ _ h => h) (Or.inl ⟨by rfl, ?_⟩) ?_ ?_
              rotate_left
              · intro w'
                go_simp
                with_reducible rfl
              rotate_left
              · simp only [Act.put, List.setIfInBounds_toArray, List.set_cons_zero, List.set_cons_succ, i64_w, i32_w]
                rfl
              refine pure_ (i := 17) (N := some 93) (v := ?_) (a' := ?_) #[true, true, true, true, true, true, true, true, true, false, false, true, true, true, true, true, true, true, false, false, false, false, false, false, false, false, false] rfl rfl (by kernel_rfl) (fun _ _ _ h => h) (Or.inl ⟨by rfl, ?_⟩) ?_ ?_
              rotate_left
              · intro w'
                go_simp
                with_reducible rfl
              rotate_left
              · simp only [Act.put, List.setIfInBounds_toArray, List.set_cons_zero, List.set_cons_succ, i64_w, i32_w]
                rfl
              refine take_ (i := 18) (N := some 94) (v := ?_) (a' := ?_) #[true, true, true, true, true, true, true, true, true, false, false, true, true, true, true, true, true, true, true, false, false, false, false, false, false, false, false] rfl rfl (by kernel_rfl) (fun _ _ _ h => h) (Or.inl ⟨by rfl, ?_⟩) hHeld ?_ ?_
              rotate_left
              · rintro w' ⟨s0, s1, s2⟩
                go_simp
                with_reducible rfl
              rotate_left
              · simp only [Act.put, List.setIfInBounds_toArray, List.set_cons_zero, List.set_cons_succ, i64_w, i32_w]
                rfl
              have HSd := Aside0.mk (HSr.out.below (Below.refl _ _).drew)
              have HOd := Aside0.mk HOr.out.drew
              have HCx := Aside0.mk (show wr.drew.cell? (ad.add kk) = some (.int .u8 x) from hcell)
              have NAD := Aside0.mk (show ¬ own2 (.slice Aa ks'.length ca) (.slice Ab bs'.length cb) (ad.add kk).block from fun h => by
                have hb_ : (ad.add kk).block = ad.block := by unfold Addr.add; split <;> rfl
                rw [hb_] at h
                have h0 := SEP.out (by omega) ad rfl
                refine h0 (Or.inr ?_)
                have hlt_ : ad.block < w.heap.size := by
                  obtain ⟨ad_, e_, hc_⟩ := Kd.at_int HC.out (kk : Int) (by omega) hltz
                  injection e_ with e_
                  subst e_
                  have := World.block_lt_of_cell? w _ hc_
                  unfold Addr.add at this
                  split at this <;> exact this
                rcases h with h | h
                · rcases GA.out _ h with q | q
                  · exact Or.inl q
                  · omega
                · rcases GB.out _ h with q | q
                  · exact Or.inr q
                  · omega)
              have HW0 := Aside0.mk (show w.heap.size ≤ wr.drew.heap.size from HOr.out.size)
              clear hHeld c0 c1 c2 hcell HSr HOr H51
              generalize wr.drew = wd at HSd HOd HCx HW0 ⊢
              have HOr := HOd
              clear HOd
              have CR1 := Aside0.mk HSd.out.c1
              have CR2 := Aside0.mk HSd.out.c2
              have NRB := Aside0.mk (show ¬ own2 (.slice Aa ks'.length ca) (.slice Ab bs'.length cb) rb from fun h => h.elim HSd.out.na HSd.out.nb)
              have hSH : ∀ {W' : World}, Only (own2 (.slice Aa ks'.length ca) (.slice Ab bs'.length cb)) wd W' → (W'.cell? ⟨rb, 1, none⟩ = some (.slice Aa ks'.length ca) ∧ W'.cell? ⟨rb, 2, none⟩ = some (.slice Ab bs'.length cb) ∧ W'.cell? (ad.add kk) = some (.int .u8 x)) := fun ho => ⟨ho.cell (ad := ⟨rb, 1, none⟩) NRB.out CR1.out, ho.cell (ad := ⟨rb, 2, none⟩) NRB.out CR2.out, ho.cell NAD.out HCx.out⟩
              have BT := Aside0.mk (Bt.start HSd.out.ra HSd.out.rb_ HSd.out.nab HSd.out.bz)
              refine two_ (i := 9) (j := 19) (Ni := some 85) (Nj := some 95) #[true, true, true, true, true, true, true, true, true, true, false, true, true, true, true, true, true, true, true, false, false, false, false, false, false, false, false] #[true, true, true, true, true, true, true, true, true, false, false, true, true, true, true, true, true, true, true, true, false, false, false, false, false, false, false] rfl rfl rfl rfl (by kernel_rfl) (by decide) (by decide) (fun K hK => ?_) (fun K hK => ?_)
              · skip
                have BTn := Aside0.mk (BT.out.alloc (.cells #[.int .i64 (wrap64 (p + (kk : Int)))] 3))
                have L0_ := Lt.new .i64 3 ((wrap64 (p + (kk : Int)))) BT.out.on.size
                try rw [World.size_alloc] at L0_
                have La := Aside0.mk L0_
                clear L0_
                first | (have Lb' := Aside0.mk (Lb.out.alloc (.cells #[.int .i64 (wrap64 (p + (kk : Int)))] 3)); clear Lb; have Lb := Lb'; clear Lb') | skip
                refine value_ (w1 := ?_) (v := ?_) (by rfl) rfl ?_ ?_
                rotate_left 2
                · go_simp
                  constructor
                  · rfl
                  · rfl
                clear BT
                have BT := BTn
                clear BTn
                refine hK.out _ _ (hSH BT.out.on) (fun hHeld => ?_)
                clear hK K
                refine norm_ (a' := ?_) ?_ ?_
                rotate_left
                · show Act.put _ (some 85) _ = _
                  simp only [Act.put, List.setIfInBounds_toArray, List.set_cons_zero, List.set_cons_succ, i64_w, i32_w]
                  rfl
                refine two_ (i := 10) (j := 19) (Ni := some 86) (Nj := some 95) #[true, true, true, true, true, true, true, true, true, true, true, true, true, true, true, true, true, true, true, false, false, false, false, false, false, false, false] #[true, true, true, true, true, true, true, true, true, true, false, true, true, true, true, true, true, true, true, true, false, false, false, false, false, false, false] rfl rfl rfl rfl (by kernel_rfl) (by decide) (by decide) (fun K hK => ?_) (fun K hK => ?_)
                · skip
                  refine Kd.R_append_rows_step (Kd.int .i64) (w0 := wd) base (by rfl) (.tmp 81) (.tmp 85) 22 3 (.int .i64 0) 8 rfl Try.underlying22 info3 rfl (by decide) (by omega) _ ks' [wrap64 (p + (kk : Int))] _ 1 1 (fun _ => True) (fun _ => False) rfl rfl BT.out.oa La.out.c (fun _ _ h => h) (fun _ h => h.elim) (fun _ _ => trivial) BT.out.below (Nat.le_trans BT.out.bz BT.out.on.size) ALa.out ?_
                  intro v8 w8 ho hb hg hat
                  obtain ⟨A8, c8, e8⟩ := Kd.R_slice ho
                  obtain ⟨n8, hn8⟩ : ∃ n_, (ks' ++ [wrap64 (p + (kk : Int))]).length = n_ := ⟨_, rfl⟩
                  rw [hn8] at e8
                  subst e8
                  clear hn8
                  have BTn := Aside0.mk (BT.out.appA ho hg hat)
                  first | (have Lb' := Aside0.mk (Lb.out.app hg (fun k e => (BT.out.la k (Or.inl e)).1)); clear Lb; have Lb := Lb'; clear Lb') | skip
                  clear ho hb hg hat BT La
                  have BT := BTn
                  clear BTn
                  refine hK.out _ _ (hSH BT.out.on) (fun hHeld => ?_)
                  clear hK K
                  refine norm_ (a' := ?_) ?_ ?_
                  rotate_left
                  · show Act.put _ (some 86) _ = _
                    simp only [Act.put, List.setIfInBounds_toArray, List.set_cons_zero, List.set_cons_succ, i64_w, i32_w]
                    rfl
                  refine one_ (i := 19) (N := some 95) #[true, true, true, true, true, true, true, true, true, true, true, true, true, true, true, true, true, true, true, true, false, false, false, false, false, false, false] rfl rfl (by kernel_rfl) (by decide) (fun K hK => ?_)
                  have BTn := Aside0.mk (BT.out.alloc (.cells #[.int .u8 x] 5))
                  have L0_ := Lt.new .u8 5 (x) BT.out.on.size
                  try rw [World.size_alloc] at L0_
                  have Lb := Aside0.mk L0_
                  clear L0_
                  first | (have La' := Aside0.mk (La.out.alloc (.cells #[.int .u8 x] 5)); clear La; have La := La'; clear La') | skip
                  refine value_ (w1 := ?_) (v := ?_) (by rfl) rfl ?_ ?_
                  rotate_left 2
                  · go_simp
                    constructor
                    · rfl
                    · rfl
                  clear BT
                  have BT := BTn
                  clear BTn
                  refine hK.out _ _ (hSH BT.out.on) (fun hHeld => ?_)
                  clear hK K
                  refine norm_ (a' := ?_) ?_ ?_
                  rotate_left
                  · show Act.put _ (some 95) _ = _
                    simp only [Act.put, List.setIfInBounds_toArray, List.set_cons_zero, List.set_cons_succ, i64_w, i32_w]
                    rfl
                  refine one_ (i := 20) (N := some 96) #[true, true, true, true, true, true, true, true, true, true, true, true, true, true, true, true, true, true, true, true, true, false, false, false, false, false, false] rfl rfl (by kernel_rfl) (by decide) (fun K hK => ?_)
                  refine Kd.R_append_rows_step (Kd.int .u8) (w0 := wd) base (by rfl) (.tmp 90) (.tmp 95) 44 5 (.int .u8 0) 1 rfl Try.underlying44 info5 rfl (by decide) (by omega) _ bs' [x] _ 1 1 (fun _ => True) (fun _ => False) rfl rfl BT.out.ob Lb.out.c (fun _ _ h => h) (fun _ h => h.elim) (fun _ _ => trivial) BT.out.below (Nat.le_trans BT.out.bz BT.out.on.size) ALb.out ?_
                  intro v9 w9 ho hb hg hat
                  obtain ⟨A9, c9, e9⟩ := Kd.R_slice ho
                  obtain ⟨n9, hn9⟩ : ∃ n_, (bs' ++ [x]).length = n_ := ⟨_, rfl⟩
                  rw [hn9] at e9
                  subst e9
                  clear hn9
                  have BTn := Aside0.mk (BT.out.appB ho hg hat)
                  clear ho hb hg hat BT Lb
                  have BT := BTn
                  clear BTn
                  refine hK.out _ _ (hSH BT.out.on) (fun hHeld => ?_)
                  clear hK K
                  refine norm_ (a' := ?_) ?_ ?_
                  rotate_left
                  · show Act.put _ (some 96) _ = _
                    simp only [Act.put, List.setIfInBounds_toArray, List.set_cons_zero, List.set_cons_succ, i64_w, i32_w]
                    rfl
                  refine pure_ (i := 21) (N := some 97) (v := ?_) (a' := ?_) #[true, true, true, true, true, true, true, true, true, true, true, true, true, true, true, true, true, true, true, true, true, true, false, false, false, false, false] rfl rfl (by kernel_rfl) (fun _ _ _ h => h) (Or.inl ⟨by rfl, ?_⟩) ?_ ?_
                  rotate_left
                  · intro w'
                    go_simp
                    with_reducible rfl
                  rotate_left
                  · simp only [Act.put, List.setIfInBounds_toArray, List.set_cons_zero, List.set_cons_succ, i64_w, i32_w]
                    rfl
                  refine pure_ (i := 22) (N := some 98) (v := ?_) (a' := ?_) #[true, true, true, true, true, true, true, true, true, true, true, true, true, true, true, true, true, true, true, true, true, true, true, false, false, false, false] rfl rfl (by kernel_rfl) (fun _ _ _ h => h) (Or.inl ⟨by rfl, ?_⟩) ?_ ?_
                  rotate_left
                  · intro w'
                    go_simp
                    with_reducible rfl
                  rotate_left
                  · simp only [Act.put, List.setIfInBounds_toArray, List.set_cons_zero, List.set_cons_succ, i64_w, i32_w]
                    rfl
                  refine last_ (i := 23) (N := none) #[true, true, true, true, true, true, true, true, true, true, true, true, true, true, true, true, true, true, true, true, true, true, true, true, false, false, false] rfl rfl (by kernel_rfl) (by decide) (fun K hK => ?_)
                  have e1 := BT.out.on.cell (ad := ⟨rb, 1, none⟩) NRB.out CR1.out
                  have g1 := (Only.frozen BT.out.on (ad := ⟨rb, 1, none⟩) HSd.out.lt NRB.out).trans HSd.out.f1
                  refine skip_ (w1 := ?_) (by rfl) rfl ?_ ?_
                  rotate_left
                  · go_simp
                    rfl
                  clear e1 g1
                  refine hK.out _ _ ?_
                  clear hK K
                  refine pure_ (i := 24) (N := some 99) (v := ?_) (a' := ?_) #[true, true, true, true, true, true, true, true, true, true, true, true, true, true, true, true, true, true, true, true, true, true, true, true, true, false, false] rfl rfl (by kernel_rfl) (fun _ _ _ h => h) (Or.inl ⟨by rfl, ?_⟩) ?_ ?_
                  rotate_left
                  · intro w'
                    go_simp
                    with_reducible rfl
                  rotate_left
                  · simp only [Act.put, List.setIfInBounds_toArray, List.set_cons_zero, List.set_cons_succ, i64_w, i32_w]
                    rfl
                  refine pure_ (i := 25) (N := some 100) (v := ?_) (a' := ?_) #[true, true, true, true, true, true, true, true, true, true, true, true, true, true, true, true, true, true, true, true, true, true, true, true, true, true, false] rfl rfl (by kernel_rfl) (fun _ _ _ h => h) (Or.inl ⟨by rfl, ?_⟩) ?_ ?_
                  rotate_left
                  · intro w'
                    go_simp
                    with_reducible rfl
                  rotate_left
                  · simp only [Act.put, List.setIfInBounds_toArray, List.set_cons_zero, List.set_cons_succ, i64_w, i32_w]
                    rfl
                  refine last_ (i := 26) (N := none) #[true, true, true, true, true, true, true, true, true, true, true, true, true, true, true, true, true, true, true, true, true, true, true, true, true, true, true] rfl rfl (by kernel_rfl) (by decide) (fun K hK => ?_)
                  have e2 : (w9.setCell ⟨rb, 1, none⟩ (.slice A8 n8 c8)).cell? ⟨rb, 2, none⟩ = some (.slice Ab bs'.length cb) := by rw [World.cell?_setCell_other _ _ _ _ (by simp)]; exact BT.out.on.cell (ad := ⟨rb, 2, none⟩) NRB.out CR2.out
                  have g2 : (w9.setCell ⟨rb, 1, none⟩ (.slice A8 n8 c8)).frozen? ⟨rb, 2, none⟩ = false := by rw [World.frozen?_setCell]; exact (Only.frozen BT.out.on (ad := ⟨rb, 2, none⟩) HSd.out.lt NRB.out).trans HSd.out.f2
                  refine skip_ (w1 := ?_) (by rfl) rfl ?_ ?_
                  rotate_left
                  · go_simp
                    rfl
                  clear e2 g2
                  refine hK.out _ _ ?_
                  clear hK K
                  refine done_ (by kernel_rfl) ?_
                  have HS9 := Aside0.mk (HSd.out.close BT.out (by have := HSd.out.len; simp [this]) (bytes_snoc HSd.out.by_ HX8.out))
                  have HO9 := Aside0.mk ((BT.out.on.imp (fun k _ hk => (Or.inr hk : k = rb ∨ own2 _ _ k))).setCell (ad := ⟨rb, 1, none⟩) (Or.inl rfl) (.slice A8 n8 c8) |>.setCell (ad := ⟨rb, 2, none⟩) (Or.inl rfl) (.slice A9 n9 c9))
                  have GA9 := Aside0.mk BT.out.ga
                  have GB9 := Aside0.mk BT.out.gb
                  clear BT
                  go_wp2
                  go_roundg (l.length - (kk + 1))
                  case measure => omega
                  case rel => exact ⟨kk + 1, _, _, _, _, by omega, by omega, by rw [EW.out], HS9.out, ⟨FRN.out⟩, by have := KL.out; simp; omega, grow_trans GA.out GA9.out HW0.out, grow_trans GB.out GB9.out HW0.out, only_trans HOr.out GA.out GB.out HO9.out⟩
                · skip
                  have BTn := Aside0.mk (BT.out.alloc (.cells #[.int .u8 x] 5))
                  have L0_ := Lt.new .u8 5 (x) BT.out.on.size
                  try rw [World.size_alloc] at L0_
                  have Lb := Aside0.mk L0_
                  clear L0_
                  first | (have La' := Aside0.mk (La.out.alloc (.cells #[.int .u8 x] 5)); clear La; have La := La'; clear La') | skip
                  refine value_ (w1 := ?_) (v := ?_) (by rfl) rfl ?_ ?_
                  rotate_left 2
                  · go_simp
                    constructor
                    · rfl
                    · rfl
                  clear BT
                  have BT := BTn
                  clear BTn
                  refine hK.out _ _ (hSH BT.out.on) (fun hHeld => ?_)
                  clear hK K
                  refine norm_ (a' := ?_) ?_ ?_
                  rotate_left
                  · show Act.put _ (some 95) _ = _
                    simp only [Act.put, List.setIfInBounds_toArray, List.set_cons_zero, List.set_cons_succ, i64_w, i32_w]
                    rfl
                  refine one_ (i := 10) (N := some 86) #[true, true, true, true, true, true, true, true, true, true, true, true, true, true, true, true, true, true, true, true, false, false, false, false, false, false, false] rfl rfl (by kernel_rfl) (by decide) (fun K hK => ?_)
                  refine Kd.R_append_rows_step (Kd.int .i64) (w0 := wd) base (by rfl) (.tmp 81) (.tmp 85) 22 3 (.int .i64 0) 8 rfl Try.underlying22 info3 rfl (by decide) (by omega) _ ks' [wrap64 (p + (kk : Int))] _ 1 1 (fun _ => True) (fun _ => False) rfl rfl BT.out.oa La.out.c (fun _ _ h => h) (fun _ h => h.elim) (fun _ _ => trivial) BT.out.below (Nat.le_trans BT.out.bz BT.out.on.size) ALa.out ?_
                  intro v8 w8 ho hb hg hat
                  obtain ⟨A8, c8, e8⟩ := Kd.R_slice ho
                  obtain ⟨n8, hn8⟩ : ∃ n_, (ks' ++ [wrap64 (p + (kk : Int))]).length = n_ := ⟨_, rfl⟩
                  rw [hn8] at e8
                  subst e8
                  clear hn8
                  have BTn := Aside0.mk (BT.out.appA ho hg hat)
                  first | (have Lb' := Aside0.mk (Lb.out.app hg (fun k e => (BT.out.la k (Or.inl e)).1)); clear Lb; have Lb := Lb'; clear Lb') | skip
                  clear ho hb hg hat BT La
                  have BT := BTn
                  clear BTn
                  refine hK.out _ _ (hSH BT.out.on) (fun hHeld => ?_)
                  clear hK K
                  refine norm_ (a' := ?_) ?_ ?_
                  rotate_left
                  · show Act.put _ (some 86) _ = _
                    simp only [Act.put, List.setIfInBounds_toArray, List.set_cons_zero, List.set_cons_succ, i64_w, i32_w]
                    rfl
                  refine one_ (i := 20) (N := some 96) #[true, true, true, true, true, true, true, true, true, true, true, true, true, true, true, true, true, true, true, true, true, false, false, false, false, false, false] rfl rfl (by kernel_rfl) (by decide) (fun K hK => ?_)
                  refine Kd.R_append_rows_step (Kd.int .u8) (w0 := wd) base (by rfl) (.tmp 90) (.tmp 95) 44 5 (.int .u8 0) 1 rfl Try.underlying44 info5 rfl (by decide) (by omega) _ bs' [x] _ 1 1 (fun _ => True) (fun _ => False) rfl rfl BT.out.ob Lb.out.c (fun _ _ h => h) (fun _ h => h.elim) (fun _ _ => trivial) BT.out.below (Nat.le_trans BT.out.bz BT.out.on.size) ALb.out ?_
                  intro v9 w9 ho hb hg hat
                  obtain ⟨A9, c9, e9⟩ := Kd.R_slice ho
                  obtain ⟨n9, hn9⟩ : ∃ n_, (bs' ++ [x]).length = n_ := ⟨_, rfl⟩
                  rw [hn9] at e9
                  subst e9
                  clear hn9
                  have BTn := Aside0.mk (BT.out.appB ho hg hat)
                  clear ho hb hg hat BT Lb
                  have BT := BTn
                  clear BTn
                  refine hK.out _ _ (hSH BT.out.on) (fun hHeld => ?_)
                  clear hK K
                  refine norm_ (a' := ?_) ?_ ?_
                  rotate_left
                  · show Act.put _ (some 96) _ = _
                    simp only [Act.put, List.setIfInBounds_toArray, List.set_cons_zero, List.set_cons_succ, i64_w, i32_w]
                    rfl
                  refine pure_ (i := 21) (N := some 97) (v := ?_) (a' := ?_) #[true, true, true, true, true, true, true, true, true, true, true, true, true, true, true, true, true, true, true, true, true, true, false, false, false, false, false] rfl rfl (by kernel_rfl) (fun _ _ _ h => h) (Or.inl ⟨by rfl, ?_⟩) ?_ ?_
                  rotate_left
                  · intro w'
                    go_simp
                    with_reducible rfl
                  rotate_left
                  · simp only [Act.put, List.setIfInBounds_toArray, List.set_cons_zero, List.set_cons_succ, i64_w, i32_w]
                    rfl
                  refine pure_ (i := 22) (N := some 98) (v := ?_) (a' := ?_) #[true, true, true, true, true, true, true, true, true, true, true, true, true, true, true, true, true, true, true, true, true, true, true, false, false, false, false] rfl rfl (by kernel_rfl) (fun _ _ _ h => h) (Or.inl ⟨by rfl, ?_⟩) ?_ ?_
                  rotate_left
                  · intro w'
                    go_simp
                    with_reducible rfl
                  rotate_left
                  · simp only [Act.put, List.setIfInBounds_toArray, List.set_cons_zero, List.set_cons_succ, i64_w, i32_w]
                    rfl
                  refine last_ (i := 23) (N := none) #[true, true, true, true, true, true, true, true, true, true, true, true, true, true, true, true, true, true, true, true, true, true, true, true, false, false, false] rfl rfl (by kernel_rfl) (by decide) (fun K hK => ?_)
                  have e1 := BT.out.on.cell (ad := ⟨rb, 1, none⟩) NRB.out CR1.out
                  have g1 := (Only.frozen BT.out.on (ad := ⟨rb, 1, none⟩) HSd.out.lt NRB.out).trans HSd.out.f1
                  refine skip_ (w1 := ?_) (by rfl) rfl ?_ ?_
                  rotate_left
                  · go_simp
                    rfl
                  clear e1 g1
                  refine hK.out _ _ ?_
                  clear hK K
                  refine pure_ (i := 24) (N := some 99) (v := ?_) (a' := ?_) #[true, true, true, true, true, true, true, true, true, true, true, true, true, true, true, true, true, true, true, true, true, true, true, true, true, false, false] rfl rfl (by kernel_rfl) (fun _ _ _ h => h) (Or.inl ⟨by rfl, ?_⟩) ?_ ?_
                  rotate_left
                  · intro w'
                    go_simp
                    with_reducible rfl
                  rotate_left
                  · simp only [Act.put, List.setIfInBounds_toArray, List.set_cons_zero, List.set_cons_succ, i64_w, i32_w]
                    rfl
                  refine pure_ (i := 25) (N := some 100) (v := ?_) (a' := ?_) #[true, true, true, true, true, true, true, true, true, true, true, true, true, true, true, true, true, true, true, true, true, true, true, true, true, true, false] rfl rfl (by kernel_rfl) (fun _ _ _ h => h) (Or.inl ⟨by rfl, ?_⟩) ?_ ?_
                  rotate_left
                  · intro w'
                    go_simp
                    with_reducible rfl
                  rotate_left
                  · simp only [Act.put, List.setIfInBounds_toArray, List.set_cons_zero, List.set_cons_succ, i64_w, i32_w]
                    rfl
                  refine last_ (i := 26) (N := none) #[true, true, true, true, true, true, true, true, true, true, true, true, true, true, true, true, true, true, true, true, true, true, true, true, true, true, true] rfl rfl (by kernel_rfl) (by decide) (fun K hK => ?_)
                  have e2 : (w9.setCell ⟨rb, 1, none⟩ (.slice A8 n8 c8)).cell? ⟨rb, 2, none⟩ = some (.slice Ab bs'.length cb) := by rw [World.cell?_setCell_other _ _ _ _ (by simp)]; exact BT.out.on.cell (ad := ⟨rb, 2, none⟩) NRB.out CR2.out
                  have g2 : (w9.setCell ⟨rb, 1, none⟩ (.slice A8 n8 c8)).frozen? ⟨rb, 2, none⟩ = false := by rw [World.frozen?_setCell]; exact (Only.frozen BT.out.on (ad := ⟨rb, 2, none⟩) HSd.out.lt NRB.out).trans HSd.out.f2
                  refine skip_ (w1 := ?_) (by rfl) rfl ?_ ?_
                  rotate_left
                  · go_simp
                    rfl
                  clear e2 g2
                  refine hK.out _ _ ?_
                  clear hK K
                  refine done_ (by kernel_rfl) ?_
                  have HS9 := Aside0.mk (HSd.out.close BT.out (by have := HSd.out.len; simp [this]) (bytes_snoc HSd.out.by_ HX8.out))
                  have HO9 := Aside0.mk ((BT.out.on.imp (fun k _ hk => (Or.inr hk : k = rb ∨ own2 _ _ k))).setCell (ad := ⟨rb, 1, none⟩) (Or.inl rfl) (.slice A8 n8 c8) |>.setCell (ad := ⟨rb, 2, none⟩) (Or.inl rfl) (.slice A9 n9 c9))
                  have GA9 := Aside0.mk BT.out.ga
                  have GB9 := Aside0.mk BT.out.gb
                  clear BT
                  go_wp2
                  go_roundg (l.length - (kk + 1))
                  case measure => omega
                  case rel => exact ⟨kk + 1, _, _, _, _, by omega, by omega, by rw [EW.out], HS9.out, ⟨FRN.out⟩, by have := KL.out; simp; omega, grow_trans GA.out GA9.out HW0.out, grow_trans GB.out GB9.out HW0.out, only_trans HOr.out GA.out GB.out HO9.out⟩
              · skip
                have BTn := Aside0.mk (BT.out.alloc (.cells #[.int .u8 x] 5))
                have L0_ := Lt.new .u8 5 (x) BT.out.on.size
                try rw [World.size_alloc] at L0_
                have Lb := Aside0.mk L0_
                clear L0_
                first | (have La' := Aside0.mk (La.out.alloc (.cells #[.int .u8 x] 5)); clear La; have La := La'; clear La') | skip
                refine value_ (w1 := ?_) (v := ?_) (by rfl) rfl ?_ ?_
                rotate_left 2
                · go_simp
                  constructor
                  · rfl
                  · rfl
                clear BT
                have BT := BTn
                clear BTn
                refine hK.out _ _ (hSH BT.out.on) (fun hHeld => ?_)
                clear hK K
                refine norm_ (a' := ?_) ?_ ?_
                rotate_left
                · show Act.put _ (some 95) _ = _
                  simp only [Act.put, List.setIfInBounds_toArray, List.set_cons_zero, List.set_cons_succ, i64_w, i32_w]
                  rfl
                refine one_ (i := 9) (N := some 85) #[true, true, true, true, true, true, true, true, true, true, false, true, true, true, true, true, true, true, true, true, false, false, false, false, false, false, false] rfl rfl (by kernel_rfl) (by decide) (fun K hK => ?_)
                have BTn := Aside0.mk (BT.out.alloc (.cells #[.int .i64 (wrap64 (p + (kk : Int)))] 3))
                have L0_ := Lt.new .i64 3 ((wrap64 (p + (kk : Int)))) BT.out.on.size
                try rw [World.size_alloc] at L0_
                have La := Aside0.mk L0_
                clear L0_
                first | (have Lb' := Aside0.mk (Lb.out.alloc (.cells #[.int .i64 (wrap64 (p + (kk : Int)))] 3)); clear Lb; have Lb := Lb'; clear Lb') | skip
                refine value_ (w1 := ?_) (v := ?_) (by rfl) rfl ?_ ?_
                rotate_left 2
                · go_simp
                  constructor
                  · rfl
                  · rfl
                clear BT
                have BT := BTn
                clear BTn
                refine hK.out _ _ (hSH BT.out.on) (fun hHeld => ?_)
                clear hK K
                refine norm_ (a' := ?_) ?_ ?_
                rotate_left
                · show Act.put _ (some 85) _ = _
                  simp only [Act.put, List.setIfInBounds_toArray, List.set_cons_zero, List.set_cons_succ, i64_w, i32_w]
                  rfl
                refine one_ (i := 10) (N := some 86) #[true, true, true, true, true, true, true, true, true, true, true, true, true, true, true, true, true, true, true, true, false, false, false, false, false, false, false] rfl rfl (by kernel_rfl) (by decide) (fun K hK => ?_)
                refine Kd.R_append_rows_step (Kd.int .i64) (w0 := wd) base (by rfl) (.tmp 81) (.tmp 85) 22 3 (.int .i64 0) 8 rfl Try.underlying22 info3 rfl (by decide) (by omega) _ ks' [wrap64 (p + (kk : Int))] _ 1 1 (fun _ => True) (fun _ => False) rfl rfl BT.out.oa La.out.c (fun _ _ h => h) (fun _ h => h.elim) (fun _ _ => trivial) BT.out.below (Nat.le_trans BT.out.bz BT.out.on.size) ALa.out ?_
                intro v8 w8 ho hb hg hat
                obtain ⟨A8, c8, e8⟩ := Kd.R_slice ho
                obtain ⟨n8, hn8⟩ : ∃ n_, (ks' ++ [wrap64 (p + (kk : Int))]).length = n_ := ⟨_, rfl⟩
                rw [hn8] at e8
                subst e8
                clear hn8
                have BTn := Aside0.mk (BT.out.appA ho hg hat)
                first | (have Lb' := Aside0.mk (Lb.out.app hg (fun k e => (BT.out.la k (Or.inl e)).1)); clear Lb; have Lb := Lb'; clear Lb') | skip
                clear ho hb hg hat BT La
                have BT := BTn
                clear BTn
                refine hK.out _ _ (hSH BT.out.on) (fun hHeld => ?_)
                clear hK K
                refine norm_ (a' := ?_) ?_ ?_
                rotate_left
                · show Act.put _ (some 86) _ = _
                  simp only [Act.put, List.setIfInBounds_toArray, List.set_cons_zero, List.set_cons_succ, i64_w, i32_w]
                  rfl
                refine one_ (i := 20) (N := some 96) #[true, true, true, true, true, true, true, true, true, true, true, true, true, true, true, true, true, true, true, true, true, false, false, false, false, false, false] rfl rfl (by kernel_rfl) (by decide) (fun K hK => ?_)
                refine Kd.R_append_rows_step (Kd.int .u8) (w0 := wd) base (by rfl) (.tmp 90) (.tmp 95) 44 5 (.int .u8 0) 1 rfl Try.underlying44 info5 rfl (by decide) (by omega) _ bs' [x] _ 1 1 (fun _ => True) (fun _ => False) rfl rfl BT.out.ob Lb.out.c (fun _ _ h => h) (fun _ h => h.elim) (fun _ _ => trivial) BT.out.below (Nat.le_trans BT.out.bz BT.out.on.size) ALb.out ?_
                intro v9 w9 ho hb hg hat
                obtain ⟨A9, c9, e9⟩ := Kd.R_slice ho
                obtain ⟨n9, hn9⟩ : ∃ n_, (bs' ++ [x]).length = n_ := ⟨_, rfl⟩
                rw [hn9] at e9
                subst e9
                clear hn9
                have BTn := Aside0.mk (BT.out.appB ho hg hat)
                clear ho hb hg hat BT Lb
                have BT := BTn
                clear BTn
                refine hK.out _ _ (hSH BT.out.on) (fun hHeld => ?_)
                clear hK K
                refine norm_ (a' := ?_) ?_ ?_
                rotate_left
                · show Act.put _ (some 96) _ = _
                  simp only [Act.put, List.setIfInBounds_toArray, List.set_cons_zero, List.set_cons_succ, i64_w, i32_w]
                  rfl
                refine pure_ (i := 21) (N := some 97) (v := ?_) (a' := ?_) #[true, true, true, true, true, true, true, true, true, true, true, true, true, true, true, true, true, true, true, true, true, true, false, false, false, false, false] rfl rfl (by kernel_rfl) (fun _ _ _ h => h) (Or.inl ⟨by rfl, ?_⟩) ?_ ?_
                rotate_left
                · intro w'
                  go_simp
                  with_reducible rfl
                rotate_left
                · simp only [Act.put, List.setIfInBounds_toArray, List.set_cons_zero, List.set_cons_succ, i64_w, i32_w]
                  rfl
                refine pure_ (i := 22) (N := some 98) (v := ?_) (a' := ?_) #[true, true, true, true, true, true, true, true, true, true, true, true, true, true, true, true, true, true, true, true, true, true, true, false, false, false, false] rfl rfl (by kernel_rfl) (fun _ _ _ h => h) (Or.inl ⟨by rfl, ?_⟩) ?_ ?_
                rotate_left
                · intro w'
                  go_simp
                  with_reducible rfl
                rotate_left
                · simp only [Act.put, List.setIfInBounds_toArray, List.set_cons_zero, List.set_cons_succ, i64_w, i32_w]
                  rfl
                refine last_ (i := 23) (N := none) #[true, true, true, true, true, true, true, true, true, true, true, true, true, true, true, true, true, true, true, true, true, true, true, true, false, false, false] rfl rfl (by kernel_rfl) (by decide) (fun K hK => ?_)
                have e1 := BT.out.on.cell (ad := ⟨rb, 1, none⟩) NRB.out CR1.out
                have g1 := (Only.frozen BT.out.on (ad := ⟨rb, 1, none⟩) HSd.out.lt NRB.out).trans HSd.out.f1
                refine skip_ (w1 := ?_) (by rfl) rfl ?_ ?_
                rotate_left
                · go_simp
                  rfl
                clear e1 g1
                refine hK.out _ _ ?_
                clear hK K
                refine pure_ (i := 24) (N := some 99) (v := ?_) (a' := ?_) #[true, true, true, true, true, true, true, true, true, true, true, true, true, true, true, true, true, true, true, true, true, true, true, true, true, false, false] rfl rfl (by kernel_rfl) (fun _ _ _ h => h) (Or.inl ⟨by rfl, ?_⟩) ?_ ?_
                rotate_left
                · intro w'
                  go_simp
                  with_reducible rfl
                rotate_left
                · simp only [Act.put, List.setIfInBounds_toArray, List.set_cons_zero, List.set_cons_succ, i64_w, i32_w]
                  rfl
                refine pure_ (i := 25) (N := some 100) (v := ?_) (a' := ?_) #[true, true, true, true, true, true, true, true, true, true, true, true, true, true, true, true, true, true, true, true, true, true, true, true, true, true, false] rfl rfl (by kernel_rfl) (fun _ _ _ h => h) (Or.inl ⟨by rfl, ?_⟩) ?_ ?_
                rotate_left
                · intro w'
                  go_simp
                  with_reducible rfl
                rotate_left
                · simp only [Act.put, List.setIfInBounds_toArray, List.set_cons_zero, List.set_cons_succ, i64_w, i32_w]
                  rfl
                refine last_ (i := 26) (N := none) #[true, true, true, true, true, true, true, true, true, true, true, true, true, true, true, true, true, true, true, true, true, true, true, true, true, true, true] rfl rfl (by kernel_rfl) (by decide) (fun K hK => ?_)
                have e2 : (w9.setCell ⟨rb, 1, none⟩ (.slice A8 n8 c8)).cell? ⟨rb, 2, none⟩ = some (.slice Ab bs'.length cb) := by rw [World.cell?_setCell_other _ _ _ _ (by simp)]; exact BT.out.on.cell (ad := ⟨rb, 2, none⟩) NRB.out CR2.out
                have g2 : (w9.setCell ⟨rb, 1, none⟩ (.slice A8 n8 c8)).frozen? ⟨rb, 2, none⟩ = false := by rw [World.frozen?_setCell]; exact (Only.frozen BT.out.on (ad := ⟨rb, 2, none⟩) HSd.out.lt NRB.out).trans HSd.out.f2
                refine skip_ (w1 := ?_) (by rfl) rfl ?_ ?_
                rotate_left
                · go_simp
                  rfl
                clear e2 g2
                refine hK.out _ _ ?_
                clear hK K
                refine done_ (by kernel_rfl) ?_
                have HS9 := Aside0.mk (HSd.out.close BT.out (by have := HSd.out.len; simp [this]) (bytes_snoc HSd.out.by_ HX8.out))
                have HO9 := Aside0.mk ((BT.out.on.imp (fun k _ hk => (Or.inr hk : k = rb ∨ own2 _ _ k))).setCell (ad := ⟨rb, 1, none⟩) (Or.inl rfl) (.slice A8 n8 c8) |>.setCell (ad := ⟨rb, 2, none⟩) (Or.inl rfl) (.slice A9 n9 c9))
                have GA9 := Aside0.mk BT.out.ga
                have GB9 := Aside0.mk BT.out.gb
                clear BT
                go_wp2
                go_roundg (l.length - (kk + 1))
                case measure => omega
                case rel => exact ⟨kk + 1, _, _, _, _, by omega, by omega, by rw [EW.out], HS9.out, ⟨FRN.out⟩, by have := KL.out; simp; omega, grow_trans GA.out GA9.out HW0.out, grow_trans GB.out GB9.out HW0.out, only_trans HOr.out GA.out GB.out HO9.out⟩
            · have d6 : decide (z < 0) = false := decide_eq_false hzn
              have FRN := Aside0.mk (show FR ks' bs' = Stm.stored (FR ks bs) t p l (kk + 1) by
                have e1 : FR ks' bs' (p + (kk : Int)) = some z := by unfold FR; rw [hz, if_neg hzn]
                have e2 := e1
                rw [HFR.out, stored_at] at e2
                have e3 := FIT.out z e2
                rw [HFR.out]
                refine (stored_same _ _ _ _ _ HGE.out ?_).symm
                rw [stored_at, e2, e3])
              clear hz hzn
              go_wp2_with (go_at_call 51; refine H51.mono ?_; rintro e1 w1 ⟨rfl, hw1⟩; replace hw1 := hw1.symm; subst hw1)
              go_roundg (l.length - (kk + 1))
              case measure => omega
              case rel => exact ⟨kk + 1, ks', bs', va', vb', by omega, by omega, by rw [EW.out], HSr.out, ⟨FRN.out⟩, by have := KL.out; omega, GA.out, GB.out, HOr.out⟩
          · have d5 : decide (t ≤ wrap64 (p + (kk : Int))) = false := decide_eq_false (by rw [ek]; exact hge)
            have HGE := Aside0.mk hge
            clear hge ek H51
            go_wp2
            go_roundg (l.length - (kk + 1))
            case measure => omega
            case rel => exact ⟨kk + 1, ks', bs', va', vb', by omega, by omega, by rw [EW.out], HSr.out, ⟨by rw [stored_skip _ _ _ _ _ (by have := HGE.out; omega)]; exact HFR.out⟩, by have := KL.out; omega, GA.out, GB.out, HOr.out⟩
        · have hltz : ¬ (kk : Int) < (l.length : Int) := by omega
          obtain rfl : kk = l.length := by omega
          go_wp2
          go_ret
          exact ⟨rfl, _, _, _, _, HSr.out, HFR.out, KL.out, GA.out, GB.out, HOr.out⟩
theorem rput_calls {w : World} {base rb : Nat} {t : Int} {ks bs : List Int} {va vb : Value} (hS : Sr w base rb t ks bs va vb) (A : Option Addr) (c : Nat) (l : List Int) (p : Int) (hC : Kd.C (Kd.int .u8) w A l.length l) (hB : Bytes l) (ht : 0 ≤ t) (ht' : t ≤ 549755813888) (hl : l.length ≤ 1000000) (hk : ks.length + l.length ≤ 1000000)
    (hsep : 0 < l.length → ∀ ad, A = some ad → ¬ (ad.block = rb ∨ own2 va vb ad.block)) :
    Calls Try.prog 26 #[.pointer (some ⟨rb, 0, none⟩), .int .i64 p, .slice A l.length c] w fun e w' => e = .returned (.int .i64 (putE (FR ks bs) t p l)) ∧ RAfter w w' base rb t va vb (putF (FR ks bs) t p l) (ks.length + l.length) := by
  have same : ∀ {w' : World} {G : Stm.Fn}, w' = w → G = FR ks bs → RAfter w w' base rb t va vb G (ks.length + l.length) := by
    rintro w' G rfl rfl
    exact ⟨ks, bs, va, vb, hS, rfl, by omega, fun _ h => Or.inl h, fun _ h => Or.inl h, Only.refl _ _⟩
  by_cases h0 : p < 0 ∨ p > 1073741824
  · have e : putE (FR ks bs) t p l = 1 := by unfold putE; rw [if_pos h0]
    refine (rput_bad w rb A c l p h0).mono ?_
    rintro e' w' ⟨rfl, hw⟩
    exact ⟨by rw [e], same hw (by unfold putF; rw [e]; rfl)⟩
  by_cases h2 : 0 < l.length ∧ p + l.length - t > 4096
  · have e : putE (FR ks bs) t p l = 4 := by unfold putE; rw [if_neg h0, if_pos h2]
    refine (rput_long hS.c0 A c l p (by omega) (by omega) ht ht' hl h2).mono ?_
    rintro e' w' ⟨rfl, hw⟩
    exact ⟨by rw [e], same hw (by unfold putF; rw [e]; rfl)⟩
  by_cases h3 : fits (FR ks bs) p l l.length
  · have e : putE (FR ks bs) t p l = 0 := by unfold putE; rw [if_neg h0, if_neg h2, if_pos h3]
    have e2 : putF (FR ks bs) t p l = Stm.stored (FR ks bs) t p l l.length := by unfold putF; rw [if_pos e]
    rw [e, e2]
    exact rput_ok hS A c l p hC hB (by omega) (by omega) ht ht' hl hk h2 h3 hsep
  · have e : putE (FR ks bs) t p l = 12 := by unfold putE; rw [if_neg h0, if_neg h2, if_neg h3]
    refine (rput_conflict hS A c l p hC hB (by omega) (by omega) ht ht' hl (by omega) h2 h3).mono ?_
    rintro e' w' ⟨rfl, hw⟩
    exact ⟨by rw [e], same hw (by unfold putF; rw [e]; rfl)⟩
end Go.Proofs.Ytbcleckapamicaa.Rst
