/- What is given to the print: slices.Grow of nothing, slices.Concat of rows of bytes. -/
import Derived.Test.YtbcleckapamicaaStm4
import Derived.Lib.SliceRun
import Derived.Lib.AppendZeros
namespace Go.Proofs.Ytbcleckapamicaa.Gw
open Go.RowKit Go.Proofs.YtbcleckapamicaaW.PrintWords Go.Proofs.YtbcleckapamicaaW.PrintLast Go.Proofs.YtbcleckapamicaaW.PrintMore
open Go.Proofs.Ytbcleckapamicaa.Stm (info5)
set_option linter.unusedVariables false
set_option linter.unusedSimpArgs false

theorem own_empty (w : World) (c : Array Value) (cap : Nat) (hs : c.size = cap) (hc : cap ≤ maxLen) :
    Kd.R (Kd.int .u8) 5 (w.drew.alloc (.cells c 5)) w.heap.size (fun _ => True) (.slice (some ⟨w.heap.size, 0, none⟩) 0 cap) [] := by
  refine Kd.R_of_own (h1 := fun _ => rfl) (enc := Value.int .u8) (xs := []) (ok := fun _ => True) ⟨rfl, .inr ⟨w.heap.size, cap, c, rfl, Nat.le_refl _, heap_alloc_new w.drew _, Nat.zero_le _, hc, by simpa using hs, rfl⟩⟩ (fun _ _ => trivial)

set_option maxHeartbeats 1000000 in
theorem grow_nil (n : Nat) (w : World) (hn : n ≤ 140737488355328) :
    Calls Try.prog 65 #[.slice none 0 0, .int .i64 n] w fun e w' => ∃ v0_ : Value, e = .returned (v0_) ∧ Kd.R (Kd.int .u8) 5 w' w.heap.size (fun _ => True) v0_ [] ∧ Below w.heap.size w w' := by
  have HB := Aside0.mk (Below.refl w.heap.size w)
  rcases Nat.eq_zero_or_pos n with h0 | h0
  · subst h0
    go_enter Try.func65, Try.ntmps65
    go_wp2
    go_ret
    exact ⟨_, rfl, Kd.R_nil _ _ _ _ _, HB.out⟩
  · have hc := grownCap_ge w n 0 5
    have hm := grownCap_le_maxLen w n 0 5 (by simp only [maxLen]; omega)
    have HO := Aside0.mk (own_empty w (Builtin.zeroCells #[Value.int .u8 0] n ++ Builtin.zeroCells #[Value.int .u8 0] (grownCap w n 0 5 - n)) (grownCap w n 0 5) (by simp [size_zeroCells]; omega) hm)
    clear hc hm
    have hb : Try.t5.bytes = 1 := by kernel_rfl
    have f1 : ¬ (281474976710656 < (n : Int) * (Try.t5.bytes : Int)) := by rw [hb]; omega
    have f3 : ¬ (281474976710656 < Builtin.nextslicecap n 0 * Try.t5.bytes) := by rw [nextslicecap_zero h0, hb]; omega
    clear hb
    go_enter Try.func65, Try.ntmps65
    go_wp2
    all_goals first | contradiction | skip
    go_ret
    exact ⟨_, rfl, HO.out, below_alloc (below_drew HB.out) _⟩
end Go.Proofs.Ytbcleckapamicaa.Gw
