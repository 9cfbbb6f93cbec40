/- stream.Message and stream.Messages as functions given to the print; awake. -/
import Derived.Test.YtbcleckapamicaaMes3
import Derived.Test.YtbcleckapamicaaMsg0
import Derived.Test.YtbcleckapamicaaStm6
namespace Go.Proofs.Ytbcleckapamicaa.Sg
open Go Go.RowKit Go.Proofs.YtbcleckapamicaaW.PrintWords Go.Proofs.YtbcleckapamicaaW.PrintLast Go.Proofs.YtbcleckapamicaaW.PrintMore
open Go.Proofs.Ytbcleckapamicaa.Stm (Bytes bytes_rd Only info5 lit_C)
open Go.Proofs.Ytbcleckapamicaa.Gw (slices_Concat_byte_byte.f slices_Concat_byte_byte.calls)
open Go.Proofs.Ytbcleckapamicaa.Msg (concat2 pair_C)
open Go.Proofs.Ytbcleckapamicaa.Mes (mesF KR KS messages_calls)
set_option linter.unusedVariables false
set_option linter.unusedSimpArgs false

def msgF (k : Int) (b : List Int) : List Int := if k < 0 ∨ 255 < k ∨ 2000 < b.length then [] else [k, (b.length : Int) / 65536, (b.length : Int) / 256, (b.length : Int) % 256] ++ b
theorem msg_nil {k : Int} {b : List Int} (h : k < 0 ∨ 255 < k ∨ 2000 < b.length) : msgF k b = [] := if_pos h

theorem message_bad (w : World) (k : Int) (A : Option Addr) (c : Nat) (b : List Int) (h : k < 0 ∨ 255 < k ∨ 2000 < b.length) (hl : b.length ≤ 100000) :
    Calls Try.prog 29 #[.int .i64 k, .slice A b.length c] w fun e w' => e = .returned (.slice none 0 0) ∧ w' = w := by
  by_cases h1 : k < 0
  · have d1 : decide (k < 0) = true := decide_eq_true h1
    clear h hl
    go_enter Try.func29, Try.ntmps29
    go_wp2
    go_ret
    exact ⟨rfl, rfl⟩
  · have d1 : decide (k < 0) = false := decide_eq_false h1
    by_cases h2 : 255 < k
    · have d2 : decide (255 < k) = true := decide_eq_true h2
      clear h hl
      go_enter Try.func29, Try.ntmps29
      go_wp2
      go_ret
      exact ⟨rfl, rfl⟩
    · have d2 : decide (255 < k) = false := decide_eq_false h2
      have h3 : 2000 < b.length := by omega
      have d3 : decide (2000 < (b.length : Int)) = true := decide_eq_true (by omega)
      have d4 : decide (2000 < b.length) = true := decide_eq_true h3
      clear h
      go_enter Try.func29, Try.ntmps29
      go_wp2
      go_ret
      exact ⟨rfl, rfl⟩

set_option maxHeartbeats 1000000 in
set_option maxRecDepth 100000 in
theorem message_good (w : World) (k : Nat) (hk : k ≤ 255) (A : Option Addr) (c : Nat) (b : List Int) (hC : Kd.C (Kd.int .u8) w A b.length b) (hc : b.length ≤ c) (hb : b.length ≤ 2000) :
    Calls Try.prog 29 #[.int .i64 (k : Nat), .slice A b.length c] w fun e w' => ∃ v, e = .returned v ∧ Kd.R (Kd.int .u8) 5 w' w.heap.size (fun _ => True) v (msgF k b) ∧ Below w.heap.size w w' := by
  have d0 : decide ((k : Int) < 0) = false := decide_eq_false (by omega)
  have d1 : decide (255 < (k : Int)) = false := decide_eq_false (by omega)
  have d1' : decide (255 < k) = false := decide_eq_false (by omega)
  have d2 : decide (2000 < (b.length : Int)) = false := decide_eq_false (by omega)
  have d2' : decide (2000 < b.length) = false := decide_eq_false (by omega)
  have hm : [(k : Int), (b.length : Int) / 65536, (b.length : Int) / 256, (b.length : Int) % 256] ++ b = msgF k b := by
    unfold msgF
    rw [if_neg (by omega)]
  have H52 : Calls Try.prog 52 #[.slice (some ⟨w.heap.size + 1, 0, none⟩) 2 2] ((w.alloc (.cells #[.int .u8 (k : Int), .int .u8 ((b.length : Int) / 65536), .int .u8 ((b.length : Int) / 256), .int .u8 ((b.length : Int) % 256)] 5)).alloc (.cells #[.slice (some ⟨w.heap.size, 0, none⟩) 4 4, .slice A b.length c] 44)) fun e w' => ∃ v, e = .returned v ∧ Kd.R (Kd.int .u8) 5 w' w.heap.size (fun _ => True) v (msgF k b) ∧ Below w.heap.size w w' := by
    have h1 := lit_C w [(k : Int), (b.length : Int) / 65536, (b.length : Int) / 256, (b.length : Int) % 256] (by simp)
    have h2 := Kd.C_alloc hC (.cells #[.int .u8 (k : Int), .int .u8 ((b.length : Int) / 65536), .int .u8 ((b.length : Int) / 256), .int .u8 ((b.length : Int) % 256)] 5)
    have h3 := pair_C (c1 := 4) (c2 := c) h1 (by simp) h2 hc
    rw [World.size_alloc] at h3
    refine (slices_Concat_byte_byte.calls (some ⟨w.heap.size + 1, 0, none⟩) 2 [[(k : Int), (b.length : Int) / 65536, (b.length : Int) / 256, (b.length : Int) % 256], b] (msgF k b) _ h3 (by simp) (by rw [← hm]; exact concat2 _ _ (by simp; omega))).mono ?_
    rintro e w' ⟨v, rfl, ho, hb'⟩
    have hB : Below w.heap.size w ((w.alloc (.cells #[.int .u8 (k : Int), .int .u8 ((b.length : Int) / 65536), .int .u8 ((b.length : Int) / 256), .int .u8 ((b.length : Int) % 256)] 5)).alloc (.cells #[.slice (some ⟨w.heap.size, 0, none⟩) 4 4, .slice A b.length c] 44)) := below_alloc (below_alloc (Below.refl _ _) _) _
    exact ⟨v, rfl, Kd.R_lower ho hB.size, below_step hB hb'⟩
  have e1 : (k : Int) % 256 = (k : Int) := by omega
  have e2 : (b.length : Int) / 65536 % 256 = (b.length : Int) / 65536 := by omega
  have e3 : (b.length : Int) / 256 % 256 = (b.length : Int) / 256 := by omega
  clear hC hc hb hk hm
  go_enter Try.func29, Try.ntmps29
  go_wp2_with (go_at_call 52; refine H52.mono ?_; rintro e1 w1 ⟨v1, rfl, ho, hb1⟩; have HO := Aside0.mk ho; have HB1 := Aside0.mk hb1; clear ho hb1)
  go_ret
  exact ⟨_, rfl, HO.out, HB1.out⟩

def stream_Message.f (a0 : Int) (l1 : List Int) : Option (List Int) := if l1.length ≤ 100000 then some (msgF a0 l1) else none
theorem stream_Message.calls (a0 : Int) (A1 : Option Addr) (c1 : Nat) (l1 : List Int) (r : List Int) (w : World) (hr1 : Kd.C (Kd.int .u8) w A1 l1.length l1) (hc1 : l1.length ≤ c1) (h : stream_Message.f a0 l1 = some r) :
    Calls Try.prog 29 #[.int .i64 a0, .slice A1 l1.length c1] w fun e w' => ∃ v0_ : Value, e = .returned (v0_) ∧ Kd.R (Kd.int .u8) 5 w' w.heap.size (fun _ => True) v0_ r ∧ Below w.heap.size w w' := by
  unfold stream_Message.f at h
  by_cases hl : l1.length ≤ 100000
  · rw [if_pos hl] at h
    obtain rfl := Option.some.inj h
    by_cases hb : a0 < 0 ∨ 255 < a0 ∨ 2000 < l1.length
    · refine (message_bad w a0 A1 c1 l1 hb hl).mono ?_
      rintro e w' ⟨rfl, rfl⟩
      rw [msg_nil hb]
      exact ⟨_, rfl, Kd.R_nil _ _ _ _ _, Below.refl _ _⟩
    · obtain ⟨k, rfl⟩ := Int.eq_ofNat_of_zero_le (show 0 ≤ a0 by omega)
      exact message_good w k (by omega) A1 c1 l1 hr1 hc1 (by omega)
  · rw [if_neg hl] at h
    cases h

def mesP (l : List Int) : List (List Int) × Bool := match mesF l with
  | none => ([], false)
  | some ms => (ms, true)
def stream_Messages.f (l0 : List Int) : Option (List (List Int) × Bool) := if l0.length ≤ 100000 ∧ ∀ x ∈ l0, 0 ≤ x ∧ x ≤ 255 then some (mesP l0) else none
theorem stream_Messages.calls (A0 : Option Addr) (c0 : Nat) (l0 : List Int) (r1 : List (List Int)) (r2 : Bool) (w : World) (hr0 : Kd.C (Kd.int .u8) w A0 l0.length l0) (hc0 : l0.length ≤ c0) (h : stream_Messages.f l0 = some (r1, r2)) :
    Calls Try.prog 30 #[.slice A0 l0.length c0] w fun e w' => ∃ v0_ : Value, e = .returned (.tuple #[v0_, .bool r2]) ∧ Kd.S (Kd.slice 5 (Kd.int .u8)) 44 w' w.heap.size (fun _ => True) v0_ r1 ∧ Below w.heap.size w w' := by
  unfold stream_Messages.f at h
  by_cases hl : l0.length ≤ 100000 ∧ ∀ x ∈ l0, 0 ≤ x ∧ x ≤ 255
  · rw [if_pos hl] at h
    refine (messages_calls w A0 c0 l0 hr0 hc0 hl.1 hl.2).mono ?_
    rintro e w' ⟨hb, (⟨h1, rfl⟩ | ⟨ms, v, h1, rfl, hR⟩)⟩
    · unfold mesP at h
      rw [h1] at h
      simp only [Option.some.injEq, Prod.mk.injEq] at h
      obtain ⟨rfl, rfl⟩ := h
      exact ⟨_, rfl, Kd.S_nil _ _ _ _ _, hb⟩
    · unfold mesP at h
      rw [h1] at h
      simp only [Option.some.injEq, Prod.mk.injEq] at h
      obtain ⟨rfl, rfl⟩ := h
      exact ⟨_, rfl, hR, hb⟩
  · rw [if_neg hl] at h
    cases h

def shibbolethlaw13_awake.f : Option Bool := some true
theorem shibbolethlaw13_awake.calls (r : Bool) (w : World) (h : shibbolethlaw13_awake.f = some r) :
    Calls Try.prog 28 #[] w fun e w' => e = .returned (.bool r) ∧ Below w.heap.size w w' := by
  obtain rfl := Option.some.inj h
  exact Stm.awake_calls w
end Go.Proofs.Ytbcleckapamicaa.Sg
