/- A set's spans are right as an ack's: frame.Right, walked at an ack. -/
import Derived.Test.YtpihkmpcnkhnfaaSq0
namespace Go.Proofs.Ytpihkmpcnkhnfaa.Sp
open Go Go.RowKit Go.Lib Go.Proofs.YtpihkmpcnkhnfaaW.PrintWords
open Go.Proofs.Ytpihkmpcnkhnfaa.Onl (Only)
set_option linter.unusedVariables false
set_option linter.unusedSimpArgs false

def siz (x : Int) : Int := if x < 0 then 0 else if 4611686018427387903 < x then 0 else if x < 64 then 1 else if x < 16384 then 2 else if x < 1073741824 then 4 else 8
theorem siz_ne {x : Int} (h : 0 ≤ x ∧ x ≤ 4611686018427387903) : ¬ siz x = 0 := by
  unfold siz
  rw [if_neg (by omega), if_neg (by omega)]
  split
  · omega
  · split
    · omega
    · split <;> omega
set_option maxHeartbeats 4000000 in
theorem siz_calls (W : World) (x : Int) :
    Calls Try.prog 17 #[.int .i64 x] W fun e w' => e = .returned (.int .i64 (siz x)) ∧ w' = W := by
  by_cases h1 : x < 0
  · have e : siz x = 0 := by unfold siz; rw [if_pos h1]
    rw [e]; clear e
    go_enter Try.func17, Try.ntmps17
    go_wp2
    go_ret
    exact ⟨rfl, rfl⟩
  by_cases h2 : 4611686018427387903 < x
  · have e : siz x = 0 := by unfold siz; rw [if_neg h1, if_pos h2]
    rw [e]; clear e
    go_enter Try.func17, Try.ntmps17
    go_wp2
    go_ret
    exact ⟨rfl, rfl⟩
  by_cases h3 : x < 64
  · have e : siz x = 1 := by unfold siz; rw [if_neg h1, if_neg h2, if_pos h3]
    rw [e]; clear e
    go_enter Try.func17, Try.ntmps17
    go_wp2
    go_ret
    exact ⟨rfl, rfl⟩
  by_cases h4 : x < 16384
  · have e : siz x = 2 := by unfold siz; rw [if_neg h1, if_neg h2, if_neg h3, if_pos h4]
    rw [e]; clear e
    go_enter Try.func17, Try.ntmps17
    go_wp2
    go_ret
    exact ⟨rfl, rfl⟩
  by_cases h5 : x < 1073741824
  · have e : siz x = 4 := by unfold siz; rw [if_neg h1, if_neg h2, if_neg h3, if_neg h4, if_pos h5]
    rw [e]; clear e
    go_enter Try.func17, Try.ntmps17
    go_wp2
    go_ret
    exact ⟨rfl, rfl⟩
  have e : siz x = 8 := by unfold siz; rw [if_neg h1, if_neg h2, if_neg h3, if_neg h4, if_neg h5]
  rw [e]; clear e
  go_enter Try.func17, Try.ntmps17
  go_wp2
  go_ret
  exact ⟨rfl, rfl⟩

set_option maxHeartbeats 4000000 in
theorem number0_calls (W : World) :
    Calls Try.prog 22 #[.int .i64 0] W fun e w' => e = .returned (.slice none 0 0) ∧ w' = W := by
  go_enter Try.func22, Try.ntmps22
  go_wp2
  go_ret
  exact ⟨rfl, rfl⟩

set_option maxHeartbeats 4000000 in
set_option maxRecDepth 100000 in
/-- A frame that has nothing but spans. -/
theorem bare_calls (W : World) (A : Option Addr) (n c : Nat) :
    Calls Try.prog 23 #[.agg #[.int .i64 2, .int .i64 0, .slice A n c, .int .i64 0, .slice none 0 0, .int .i64 0], .bool false, .bool true, .bool false, .bool false] W fun e w' => e = .returned (.bool true) ∧ Below W.heap.size W w' := by
  have HB := Aside0.mk (below_alloc (Below.refl W.heap.size W) (.cells #[.int .i64 2, .int .i64 0, .slice A n c, .int .i64 0, .slice none 0 0, .int .i64 0] 48))
  go_enter Try.func23, Try.ntmps23
  go_wp2
  go_ret
  exact ⟨rfl, HB.out⟩

/-- Spans as an ack has them. -/
def Ackd (l : List Spn) : Prop := ∀ (i : Nat) (h : i < l.length), 0 ≤ l[i].1 ∧ l[i].1 ≤ l[i].2 ∧ l[i].2 ≤ 4611686018427387903 ∧ (∀ (h0 : 0 < i), l[i].2 + 1 < (l[i-1]'(by omega)).1)
theorem gd_pw : ∀ {l : List Spn} {lo : Int}, Gd lo l → l.Pairwise (fun s t => s.2 + 1 < t.1)
  | [], _, _ => List.Pairwise.nil
  | s :: l, lo, ⟨h1, h2, h3, h4⟩ => List.Pairwise.cons (fun t ht => (gd_mem h4 t ht).1) (gd_pw h4)
theorem gd_ackd {l : List Spn} (h : Gd (-1) l) : Ackd l.reverse := by
  intro i hi
  have hm : l.reverse[i] ∈ l := List.mem_reverse.1 (List.getElem_mem hi)
  have := gd_mem h _ hm
  refine ⟨by omega, this.2.1, this.2.2, fun h0 => ?_⟩
  have hp : l.reverse.Pairwise (fun s t => t.2 + 1 < s.1) := List.pairwise_reverse.2 (gd_pw h)
  exact List.pairwise_iff_getElem.1 hp (i - 1) i (by omega) hi (by omega)
end Go.Proofs.Ytpihkmpcnkhnfaa.Sp
