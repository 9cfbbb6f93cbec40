/- choose.React, as the print tells functions. -/
import Derived.Test.YtbcleckapamicaaCh1
namespace Go.Proofs.Ytbcleckapamicaa.Ch
open Go.RowKit Go.Proofs.YtbcleckapamicaaW.PrintWords Go.Proofs.YtbcleckapamicaaW.PrintLast Go.Proofs.YtbcleckapamicaaW.PrintMore
open Go.Proofs.Ytbcleckapamicaa.PChoosePicks
set_option linter.unusedVariables false
set_option linter.unusedSimpArgs false

set_option maxHeartbeats 1000000 in
theorem choose_React.calls (A0 : Option Addr) (c0 : Nat) (l0 : List Int) (A1 : Option Addr) (c1 : Nat) (l1 : List Int) (a2 : Int) (r1 r2 : Int) (w : World) (hr0 : Kd.C (Kd.int .i64) w A0 l0.length l0) (hc0 : l0.length ≤ c0) (hr1 : Kd.C (Kd.int .i64) w A1 l1.length l1) (hc1 : l1.length ≤ c1) (h : choose_React.f l0 l1 a2 = some (r1, r2)) :
    Calls Try.prog 19 #[.slice A0 l0.length c0, .slice A1 l1.length c1, .int .i64 a2] w fun e w' => e = .returned (.tuple #[.int .i64 r1, .int .i64 r2]) ∧ Below w.heap.size w w' := by
  have H1 := contains_calls A0 c0 l0 a2 (w.alloc (.cells #[.slice A0 l0.length c0] 22)) (Kd.C_alloc hr0 _) hc0
  have H2 := fun n => containsFunc_calls 47 _ _ (enters_ Try.func47 (by kernel_rfl) rfl) A1 l1 c1 ((w.alloc (.cells #[.slice A0 l0.length c0] 22)).drewN n) (Kd.C_drewN (Kd.C_alloc hr1 _) n) (pred47 w.heap.size A0 c0 l0 _ hc0 (by simp) (Kd.C_drewN (Kd.C_alloc hr0 _) n))
  have H3 := fun n => choose_first.calls A1 c1 l1 A0 c0 l0 _ ((w.alloc (.cells #[.slice A0 l0.length c0] 22)).drewN n) (Kd.C_drewN (Kd.C_alloc hr1 _) n) hc1 (Kd.C_drewN (Kd.C_alloc hr0 _) n) hc0 rfl
  have B0 := Aside0.mk ((Below.refl w.heap.size w).alloc (Nat.le_refl _) (.cells #[.slice A0 l0.length c0] 22))
  clear hr0 hr1 hc0 hc1
  unfold choose_React.f at h
  by_cases e1 : a2 ∈ l0
  · rw [if_pos e1] at h
    simp only [Option.some.injEq, Prod.mk.injEq] at h
    obtain ⟨rfl, rfl⟩ := h
    rw [decide_eq_true e1] at H1
    clear H2 H3 e1
    go_enter Try.func19, Try.ntmps19
    go_wp2_with (go_at_call 45; refine H1.mono ?_; rintro e w' ⟨rfl, ⟨n, rfl⟩⟩)
    go_ret2
    exact ⟨rfl, pw_below_drewN B0.out _⟩
  · rw [if_neg e1] at h
    rw [decide_eq_false e1] at H1
    clear e1
    rcases idxP_first l1 l0 with ⟨h1, h2, h3⟩ | ⟨h1, h2, h3, h4⟩
    · rw [if_neg h3] at h
      simp only [Option.some.injEq, Prod.mk.injEq] at h
      obtain ⟨rfl, rfl⟩ := h
      have e2 : decide (0 ≤ idxP (fun x => decide (x ∈ l0)) l1) = false := decide_eq_false (by omega)
      rw [e2] at H2
      clear e2 h1 h2 h3 H3
      go_enter Try.func19, Try.ntmps19
      go_wp2_with (first | (go_at_call 45; refine H1.mono ?_; rintro e w' ⟨rfl, ⟨n, rfl⟩⟩) | (go_at_call 46; refine (H2 _).mono ?_; rintro e w' ⟨rfl, ⟨n2, rfl⟩⟩))
      go_ret2
      exact ⟨rfl, pw_below_drewN B0.out _⟩
    · rw [if_pos h4] at h
      simp only [Option.some.injEq, Prod.mk.injEq] at h
      obtain ⟨rfl, rfl⟩ := h
      have e2 : decide (0 ≤ idxP (fun x => decide (x ∈ l0)) l1) = true := decide_eq_true h1
      rw [e2] at H2
      clear e2 h1 h2 h3 h4
      go_enter Try.func19, Try.ntmps19
      go_wp2_with (first | (go_at_call 45; refine H1.mono ?_; rintro e w' ⟨rfl, ⟨n, rfl⟩⟩) | (go_at_call 46; refine (H2 _).mono ?_; rintro e w' ⟨rfl, ⟨n2, rfl⟩⟩) | (go_at_call 43; refine (H3 _).mono ?_; rintro e w' ⟨rfl, hb⟩))
      go_ret2
      exact ⟨rfl, below_step (pw_below_drewN B0.out _) hb⟩
end Go.Proofs.Ytbcleckapamicaa.Ch
