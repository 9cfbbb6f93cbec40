/- SpanRuns: the law, walked. -/
import Derived.Test.YtpihkmpcnkhnfaaSp9
namespace Go.Proofs.Ytpihkmpcnkhnfaa.Sp
open Go Go.RowKit Go.Lib Go.Proofs.YtpihkmpcnkhnfaaW.PrintWords
open Go.Proofs.Ytpihkmpcnkhnfaa.Onl (Only)
set_option linter.unusedVariables false
set_option linter.unusedSimpArgs false

/-- A run of numbers, as spans. -/
def run (a : Int) : Nat → List Spn
  | 0 => []
  | i + 1 => [(a, a + (i : Int))]
theorem run_len (a : Int) (i : Nat) : (run a i).length ≤ 1 := by cases i <;> simp [run]
theorem run_asc (a : Int) (i : Nat) : Asc (run a i) := by cases i <;> simp [run, Asc]
theorem run_bd (a : Int) (h : 0 ≤ a ∧ a ≤ 4294967295) (i : Nat) (hi : i ≤ 300) : Bd (run a i) := by
  cases i with
  | zero => simp [run, Bd]
  | succ i => intro s hs; simp [run] at hs; subst hs; constructor <;> (show _ ≤ _; simp only; omega)
theorem run_add (a : Int) (h : 0 ≤ a ∧ a ≤ 4294967295) (i : Nat) (hi : i ≤ 300) : addS (run a i) 0 (a + (i : Int)) = (true, run a (i + 1), 0) := by
  have hb : 0 ≤ a + (i : Int) ∧ a + (i : Int) ≤ big := (show 0 ≤ a + (i : Int) ∧ a + (i : Int) ≤ 4611686018427387903 by omega)
  have h0 : 0 ≤ a + (i : Int) := hb.1
  cases i with
  | zero =>
    have hp : pl (run a 0) (a + ((0 : Nat) : Int)) = 0 := rfl
    have hh : hs (run a 0) (a + ((0 : Nat) : Int)) = false := by unfold hs; rw [hp]; rfl
    have hpB : pB (run a 0) (a + ((0 : Nat) : Int)) = false := by unfold pB; rw [hp]; rfl
    have hqB : qB (run a 0) (a + ((0 : Nat) : Int)) = false := by unfold qB; rw [hp]; rfl
    have hput : put (run a 0) (a + ((0 : Nat) : Int)) = run a 1 := by
      unfold put frm too own1 own2
      rw [hpB, hqB, hp]
      simp [run]
    have hm : may (run a 0) 0 (a + ((0 : Nat) : Int)) = true := by
      unfold may; rw [hh, decide_eq_true hb, decide_eq_true h0]; rfl
    unfold addS
    rw [hm, hput]; rfl
  | succ i =>
    have hp : pl (run a (i + 1)) (a + ((i + 1 : Nat) : Int)) = 1 := by
      unfold pl run
      have : decide (a + ((i + 1 : Nat) : Int) ≤ a + (i : Int)) = false := decide_eq_false (by omega)
      rw [List.findIdx_cons]
      show (bif decide (a + ((i + 1 : Nat) : Int) ≤ a + (i : Int)) then 0 else 1) = 1
      rw [this]; rfl
    have hh : hs (run a (i + 1)) (a + ((i + 1 : Nat) : Int)) = false := by unfold hs; rw [hp]; rfl
    have hpB : pB (run a (i + 1)) (a + ((i + 1 : Nat) : Int)) = true := by
      unfold pB; rw [hp]
      have : decide (a + (i : Int) = a + ((i + 1 : Nat) : Int) - 1) = true := decide_eq_true (by omega)
      simpa [run] using this
    have hqB : qB (run a (i + 1)) (a + ((i + 1 : Nat) : Int)) = false := by unfold qB; rw [hp]; rfl
    have hput : put (run a (i + 1)) (a + ((i + 1 : Nat) : Int)) = run a (i + 2) := by
      unfold put frm too own1 own2
      rw [hpB, hqB, hp]
      simp [run]
    have hm : may (run a (i + 1)) 0 (a + ((i + 1 : Nat) : Int)) = true := by
      unfold may; rw [hh, decide_eq_true hb, decide_eq_true h0]; rfl
    unfold addS
    rw [hm, hput]; rfl

theorem w64 {x : Int} (h : -4611686018427387904 ≤ x ∧ x ≤ 4611686018427387904) : wrap64 x = x := by unfold wrap64; omega
theorem run_facts {a : Int} {i k : Nat} (ha : 0 ≤ a ∧ a ≤ 4294967295) (hk : 1 ≤ k ∧ k ≤ 300) (h : i < k) : wrap64 (a + (i : Int)) = a + (i : Int) ∧ decide ((i : Int) < (k : Int)) = true ∧ wrap64 ((i : Int) + 1) = ((i + 1 : Nat) : Int) ∧ i ≤ 300 :=
  ⟨w64 (by omega), decide_eq_true (by omega), w64 (by omega), by omega⟩
theorem end_facts {a : Int} {j : Nat} (ha : 0 ≤ a ∧ a ≤ 4294967295) (h : j + 1 ≤ 300) : wrap64 (a + ((j + 1 : Nat) : Int)) = a + ((j + 1 : Nat) : Int) ∧ wrap64 (a + ((j + 1 : Nat) : Int) - 1) = a + (j : Int) :=
  ⟨w64 (by omega), (w64 (by omega)).trans (by omega)⟩

set_option maxHeartbeats 4000000 in
set_option maxRecDepth 100000 in
theorem runs_calls (a m : Int) (ha : 0 ≤ a ∧ a ≤ 4294967295) (hm : 0 ≤ m ∧ m ≤ 65535) (w : World) :
    Calls Try.prog 5 #[.int .u32 a, .int .u16 m] w fun e w' => e = .returned (.bool true) ∧ Below w.heap.size w w' := by
  obtain ⟨k, hk, hk0, hk1⟩ : ∃ k : Nat, m.tmod 300 + 1 = (k : Int) ∧ 1 ≤ k ∧ k ≤ 300 := by
    refine ⟨(m.tmod 300 + 1).toNat, ?_, ?_, ?_⟩ <;> (rw [Int.tmod_eq_emod_of_nonneg hm.1]; omega)
  have T0 := Aside0.mk (Own.new w)
  have wa : wrap64 a = a := by unfold wrap64; omega
  have wm : wrap64 m = m := by unfold wrap64; omega
  have wk : wrap64 (m.tmod 300 + 1) = (k : Int) := by rw [hk]; unfold wrap64; omega
  have HA := Aside0.mk ha
  clear hk hm ha
  go_enter Try.func5, Try.ntmps5
  go_wp2
  simp only [wm, wk]
  have ha := HA.out
  clear wm wk
  go_loopg [7] k (fun gg v7 wr => ∃ i : Nat, v7 = .int .i64 (i : Int) ∧ i ≤ k ∧ k - i ≤ gg ∧ Aside0 (Own w wr 0 (run a i) w.heap.size))
  case atStart => exact ⟨0, rfl, by omega, by omega, T0⟩
  case round =>
    obtain ⟨i, rfl, hi, hg, T⟩ := hrel
    clear T0
    by_cases hlt : i < k
    · have HC := Aside0.mk (T.out.add (x := a + (i : Int)) (run_asc a i) (run_bd a ha i (by omega)) (Nat.le_trans (run_len a i) (by decide)) (run_add a ha i (by omega)))
      clear HA
      go_wp2_with (go_at_call 7; refine HC.out.mono ?_; rintro e1 w1 ⟨rfl, hT⟩; have T1 := Aside0.mk hT; clear hT T)
      go_roundg (k - (i + 1))
      case measure => omega
      case rel => exact ⟨i + 1, by simp, by omega, by omega, T1⟩
    · obtain rfl : i = k := by omega
      obtain ⟨j, rfl⟩ : ∃ j, i = j + 1 := ⟨i - 1, by omega⟩
      change Aside0 (Own w _ 0 [(a, a + (j : Int))] w.heap.size) at T
      have wj : wrap64 (a + ((j : Int) + 1)) = a + ((j : Int) + 1) := w64 (by omega)
      have wj1 : wrap64 (a + ((j : Int) + 1) - 1) = a + (j : Int) := (w64 (by omega)).trans (by omega)
      have HSP := Aside0.mk (T.out.spans (Nat.succ_pos _) (Nat.le_add_left 1 999))
      clear hlt hi hg ha hk0 hk1 HA
      go_wp2_with (first
        | (go_at_call 8; refine HSP.out.mono ?_; rintro e5 w5 ⟨A5, c5, rfl, hR, hT⟩; obtain ⟨b, off, rfl, g1, g2⟩ := hR.get 0 (Nat.succ_pos _); replace g1 : w5.cell? ⟨b, off, none⟩ = some (.int .i64 a) := g1; replace g2 : w5.cell? ⟨b, off + 1, none⟩ = some (.int .i64 (a + (j : Int))) := (by simpa using g2); have T5 := Aside0.mk hT; clear hT hR T)
        | (go_at_call 13; refine (T5.out.floor).mono ?_; rintro e6 w6 ⟨rfl, rfl⟩)
        | (go_at_call 9; refine (awake_calls _).mono ?_; rintro e7 w7 ⟨rfl, hb⟩; have B7 := Aside0.mk (T5.out.bl.trans (hb.mono T5.out.bl.size)); clear hb))
      go_ret
      exact ⟨rfl, B7.out⟩
end Go.Proofs.Ytpihkmpcnkhnfaa.Sp
