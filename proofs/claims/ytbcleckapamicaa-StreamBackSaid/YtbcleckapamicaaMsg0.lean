/- stream.Message, walked (kinds and lengths that may be). -/
import Derived.Test.YtbcleckapamicaaGp1
import Derived.Test.YtbcleckapamicaaRst1
namespace Go.Proofs.Ytbcleckapamicaa.Msg
open Go Go.RowKit Go.Proofs.YtbcleckapamicaaW.PrintWords Go.Proofs.YtbcleckapamicaaW.PrintLast Go.Proofs.YtbcleckapamicaaW.PrintMore
open Go.Proofs.Ytbcleckapamicaa.Stm (Bytes bytes_rd Only info5 lit_C)
open Go.Proofs.Ytbcleckapamicaa.Gw (slices_Concat_byte_byte.f slices_Concat_byte_byte.calls)
set_option linter.unusedVariables false
set_option linter.unusedSimpArgs false

/-- A message of few bytes. -/
def msg (k : Nat) (b : List Int) : List Int := [(k : Int), 0, 0, (b.length : Int)] ++ b
theorem msg_len (k : Nat) (b : List Int) : (msg k b).length = b.length + 4 := by simp [msg]
theorem concat2 (x y : List Int) (h : x.length + y.length ≤ 140737488355328) : slices_Concat_byte_byte.f [x, y] = some (x ++ y) := by
  unfold slices_Concat_byte_byte.f
  simp only [List.flatten_cons, List.flatten_nil, List.append_nil, List.length_append]
  rw [if_pos h]
/-- Two rows, in a row of rows just laid. -/
theorem pair_C {w : World} {A1 A2 : Option Addr} {c1 c2 : Nat} {x y : List Int} (h1 : Kd.C (Kd.int .u8) w A1 x.length x) (l1 : x.length ≤ c1) (h2 : Kd.C (Kd.int .u8) w A2 y.length y) (l2 : y.length ≤ c2) :
    Kd.C (Kd.slice 5 (Kd.int .u8)) (w.alloc (.cells #[.slice A1 x.length c1, .slice A2 y.length c2] 44)) (some ⟨w.heap.size, 0, none⟩) 2 [x, y] := by
  have h1' := Kd.C_alloc h1 (.cells #[.slice A1 x.length c1, .slice A2 y.length c2] 44)
  have h2' := Kd.C_alloc h2 (.cells #[.slice A1 x.length c1, .slice A2 y.length c2] 44)
  refine ⟨rfl, by decide, fun _ => ⟨_, rfl, fun j p hj => ?_⟩⟩
  have e : ∀ i : Nat, (Addr.add ⟨w.heap.size, 0, none⟩ i : Addr) = ⟨w.heap.size, i, none⟩ := fun i => by
    unfold Addr.add
    split
    · rename_i h; rw [h]
    · simp
  match j, hj with
  | 0, hj =>
    injection hj with hj
    subst hj
    refine ⟨[.slice A1 x.length c1], rfl, ⟨A1, c1, rfl, l1, h1'⟩, fun i u hu => ?_⟩
    cases i with
    | succ i => simp at hu
    | zero =>
      injection hu with hu
      subst hu
      rw [e, World.cell?_alloc_at _ _ _ _ rfl]
      rfl
  | 1, hj =>
    injection hj with hj
    subst hj
    refine ⟨[.slice A2 y.length c2], rfl, ⟨A2, c2, rfl, l2, h2'⟩, fun i u hu => ?_⟩
    cases i with
    | succ i => simp at hu
    | zero =>
      injection hu with hu
      subst hu
      rw [e, World.cell?_alloc_at _ _ _ _ rfl]
      rfl
  | j + 2, hj => simp at hj
set_option maxHeartbeats 1000000 in
set_option maxRecDepth 100000 in
theorem message_calls (w : World) (k : Nat) (hk : k ≤ 255) (A : Option Addr) (c : Nat) (b : List Int) (hC : Kd.C (Kd.int .u8) w A b.length b) (hc : b.length ≤ c) (hb : b.length ≤ 100) :
    Calls Try.prog 29 #[.int .i64 (k : Nat), .slice A b.length c] w fun e w' => ∃ v, e = .returned v ∧ Kd.R (Kd.int .u8) 5 w' w.heap.size (fun _ => True) v (msg k b) ∧ Below w.heap.size w w' := by
  have d0 : decide ((k : Int) < 0) = false := decide_eq_false (by omega)
  have d1 : decide (255 < (k : Int)) = false := decide_eq_false (by omega)
  have d1' : decide (255 < k) = false := decide_eq_false (by omega)
  have d2 : decide (2000 < (b.length : Int)) = false := decide_eq_false (by omega)
  have d2' : decide (2000 < b.length) = false := decide_eq_false (by omega)
  have hm : [(k : Int), (b.length : Int) / 65536, (b.length : Int) / 256, (b.length : Int)] ++ b = msg k b := by
    unfold msg
    rw [show (b.length : Int) / 65536 = 0 by omega, show (b.length : Int) / 256 = 0 by omega]
  have H52 : Calls Try.prog 52 #[.slice (some ⟨w.heap.size + 1, 0, none⟩) 2 2] ((w.alloc (.cells #[.int .u8 (k : Int), .int .u8 ((b.length : Int) / 65536), .int .u8 ((b.length : Int) / 256), .int .u8 (b.length : Int)] 5)).alloc (.cells #[.slice (some ⟨w.heap.size, 0, none⟩) 4 4, .slice A b.length c] 44)) fun e w' => ∃ v, e = .returned v ∧ Kd.R (Kd.int .u8) 5 w' w.heap.size (fun _ => True) v (msg k b) ∧ Below w.heap.size w w' := by
    have h1 := lit_C w [(k : Int), (b.length : Int) / 65536, (b.length : Int) / 256, (b.length : Int)] (by simp)
    have h2 := Kd.C_alloc hC (.cells #[.int .u8 (k : Int), .int .u8 ((b.length : Int) / 65536), .int .u8 ((b.length : Int) / 256), .int .u8 (b.length : Int)] 5)
    have h3 := pair_C (c1 := 4) (c2 := c) h1 (by simp) h2 hc
    rw [World.size_alloc] at h3
    refine (slices_Concat_byte_byte.calls (some ⟨w.heap.size + 1, 0, none⟩) 2 [[(k : Int), (b.length : Int) / 65536, (b.length : Int) / 256, (b.length : Int)], b] (msg k b) _ h3 (by simp) (by rw [← hm]; exact concat2 _ _ (by simp; omega))).mono ?_
    rintro e w' ⟨v, rfl, ho, hb'⟩
    have hB : Below w.heap.size w ((w.alloc (.cells #[.int .u8 (k : Int), .int .u8 ((b.length : Int) / 65536), .int .u8 ((b.length : Int) / 256), .int .u8 (b.length : Int)] 5)).alloc (.cells #[.slice (some ⟨w.heap.size, 0, none⟩) 4 4, .slice A b.length c] 44)) := below_alloc (below_alloc (Below.refl _ _) _) _
    exact ⟨v, rfl, Kd.R_lower ho hB.size, below_step hB hb'⟩
  have e1 : (k : Int) % 256 = (k : Int) := by omega
  have e4 : (b.length : Int) % 256 = (b.length : Int) := by omega
  clear hC hc hb hk hm
  go_enter Try.func29, Try.ntmps29
  go_wp2_with (go_at_call 52; refine H52.mono ?_; rintro e1 w1 ⟨v1, rfl, ho, hb1⟩; have HO := Aside0.mk ho; have HB1 := Aside0.mk hb1; clear ho hb1)
  go_ret
  exact ⟨_, rfl, HO.out, HB1.out⟩
end Go.Proofs.Ytbcleckapamicaa.Msg
