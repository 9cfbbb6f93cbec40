/- A part of the proof of the law HeaderSplits: QHex4, QHex5, HeP, HrP, QHcx0, Hsj0, Rng0, Hsk0, Hsk1, Hsk2, QHsx0, Opn, PrmHeaderSplits, PureHeaderSplits, Tab. -/
import Derived.Test.YtpihkmpcnkhnfaaDoorZHs05
import Derived.Test.YtpihkmpcnkhnfaaDoorZHs02
import Derived.Test.YtpihkmpcnkhnfaaDoorZHs08
import Derived.Test.YtpihkmpcnkhnfaaDoorZHs03
import Derived.RangeFuncBox
import Derived.RangeFuncNested
import Derived.RangeFuncCalls
import Derived.RangeFuncLeaves
import Derived.Shelf.Abstract
import Derived.WalkKit
import Derived.OwnWalkIn
import Derived.TacticsInMore
import Derived.LoopNIn
import Derived.LoopIn
import Derived.Sort.LoopGhostIn
import Derived.Deep.QuietTactic
import Derived.BigQuiet
import Derived.Maps.AppendAt
import Derived.Shelf.RegionOpen
import Derived.Test.YtpihkmpcnkhnfaaDoorProg
import Derived.Maps.OwnIn
import Derived.Deep.LoopGhost
import Derived.Deep.RegionHeld3
import Derived.Test.YtpihkmpcnkhnfaaDoorZHs00
import Derived.Deep.Slices
import Derived.WideShapes
import Derived.ProofKit
import Derived.Test.YtpihkmpcnkhnfaaDoorRows
import Derived.LaidLaws
import Derived.Lib.LaidTab
import Derived.Stop.LaidErr
namespace Go.Proofs.YtpihkmpcnkhnfaaDoor.QHe
open Go.RowKit Go.Proofs.YtpihkmpcnkhnfaaDoorW.PrintWords Go.Proofs.YtpihkmpcnkhnfaaDoorW.PrintLast Go.Proofs.YtpihkmpcnkhnfaaDoorW.PrintMore
attribute [local go_sem] max2_int min2_int max_two min_two max_three min_three max_four min_four
set_option linter.unusedVariables false
set_option linter.unusedSimpArgs false
end Go.Proofs.YtpihkmpcnkhnfaaDoor.QHe
namespace Go.Proofs.YtpihkmpcnkhnfaaDoor.QHe
open Go.RowKit Go.Proofs.YtpihkmpcnkhnfaaDoorW.PrintWords Go.Proofs.YtpihkmpcnkhnfaaDoorW.PrintLast Go.Proofs.YtpihkmpcnkhnfaaDoorW.PrintMore
attribute [local go_sem] max2_int min2_int max_two min_two max_three min_three max_four min_four
set_option linter.unusedVariables false
set_option linter.unusedSimpArgs false
end Go.Proofs.YtpihkmpcnkhnfaaDoor.QHe
namespace Go.Proofs.YtpihkmpcnkhnfaaDoor.HeP
open Go.RowKit Go.Proofs.YtpihkmpcnkhnfaaDoorW.PrintWords Go.Proofs.YtpihkmpcnkhnfaaDoorW.PrintLast Go.Proofs.YtpihkmpcnkhnfaaDoorW.PrintMore Go.Proofs.YtpihkmpcnkhnfaaDoor.QHe Go.Proofs.YtpihkmpcnkhnfaaDoor.Vn
open Go.Proofs.YtpihkmpcnkhnfaaDoor.Gw (slices_Concat_byte_byte.f)
open Go.Proofs.YtpihkmpcnkhnfaaDoor.QVa (varint_Append.f varint_Give.f)
open Go.Proofs.YtpihkmpcnkhnfaaDoor.VaP (append_f)
set_option linter.unusedVariables false
set_option linter.unusedSimpArgs false
theorem rd_nat (l : List Int) (i : Nat) (h : i < l.length) : rd l (i : Int) = l[i] := by
  simp [rd, List.getD_eq_getElem?_getD, List.getElem?_eq_getElem h]
theorem same_l (l : List Int) (hl : l.length ≤ 9223372036854775806) : ∀ (d i k : Nat), i + d = l.length → d < k → shibbolethlaw05_same.l0 k l l (i : Int) = some true := by
  intro d
  induction d with
  | zero =>
    intro i k hi hk
    obtain ⟨k, rfl⟩ : ∃ m, k = m + 1 := ⟨k - 1, by omega⟩
    simp only [shibbolethlaw05_same.l0]
    rw [if_neg (by omega)]
  | succ d ih =>
    intro i k hi hk
    obtain ⟨k, rfl⟩ : ∃ m, k = m + 1 := ⟨k - 1, by omega⟩
    simp only [shibbolethlaw05_same.l0]
    rw [if_pos (by omega), if_pos (by omega), if_pos (by omega), if_pos trivial, show wrap64 ((i : Int) + 1) = ((i + 1 : Nat) : Int) from by unfold wrap64; omega]
    exact ih (i + 1) k (by omega) (by omega)
theorem same_f (l : List Int) (hl : l.length ≤ 9223372036854775806) (k : Nat) (hk : l.length < k) : shibbolethlaw05_same.f k l l = some true := by
  unfold shibbolethlaw05_same.f
  rw [if_pos rfl]
  exact same_l l hl l.length 0 k (by omega) hk
def hbig (n : Int) (w : Int) : List Int :=
  if w = 1 then [n % 256] else if w = 2 then [n / 256 % 256, n % 256] else if w = 3 then [n / 65536 % 256, n / 256 % 256, n % 256] else [n / 16777216 % 256, n / 65536 % 256, n / 256 % 256, n % 256]
theorem hbig_len (n w : Int) : (hbig n w).length ≤ 4 := by unfold hbig; (repeat' split) <;> simp
theorem big_f (n w : Int) (h1 : 1 ≤ w) (h4 : w ≤ 4) (k : Nat) (hk : 5 < k) : header_big.f k n w = some (hbig n w) := by
  obtain ⟨k, rfl⟩ : ∃ m, k = m + 6 := ⟨k - 6, by omega⟩
  unfold header_big.f
  rw [if_pos (by omega), if_pos (by omega)]
  obtain rfl | rfl | rfl | rfl : w = 1 ∨ w = 2 ∨ w = 3 ∨ w = 4 := by omega
  all_goals simp [header_big.l0, wrap64, shr, IntKind.bits, hbig, List.replicate]
def hbound (w : Int) : Int := if w = 1 then 256 else if w = 2 then 65536 else if w = 3 then 16777216 else 4294967296
theorem wide_f (n w : Int) (h1 : 1 ≤ w) (h4 : w ≤ 4) : header_wide.f n w = some (decide (0 ≤ n ∧ n < hbound w)) := by
  unfold header_wide.f
  obtain rfl | rfl | rfl | rfl : w = 1 ∨ w = 2 ∨ w = 3 ∨ w = 4 := by omega
  all_goals
    by_cases h : 0 ≤ n
    · simp [h, wrap64, shl, IntKind.wrap, IntKind.bits, IntKind.signed, hbound]
    · simp [h]
def hright (a0 a1 : Int) (l2 l3 l4 : List Int) (a5 a6 a7 : Int) : Prop := 1 ≤ a7 ∧ a7 ≤ 4 ∧ 0 ≤ a6 ∧ a6 < hbound a7 ∧
  ((a0 = 3 ∧ a1 = 0 ∧ l2.length = 8 ∧ l3.length = 0 ∧ l4.length = 0 ∧ (a5 = 0 ∨ a5 = 1)) ∨
   (0 ≤ a0 ∧ a0 < 3 ∧ 1 ≤ a1 ∧ a1 ≤ 4294967295 ∧ l2.length ≤ 20 ∧ l3.length ≤ 20 ∧ a5 = 0 ∧ l4.length ≤ 64 ∧ (a0 = 0 ∨ l4.length = 0)))
instance (a0 a1 : Int) (l2 l3 l4 : List Int) (a5 a6 a7 : Int) : Decidable (hright a0 a1 l2 l3 l4 a5 a6 a7) := by unfold hright; infer_instance
theorem some_decide {p q : Prop} [Decidable p] [Decidable q] (h : p ↔ q) : some (decide p) = some (decide q) := by simp [h]
theorem beq_decide (a b : Int) : (a == b) = decide (a = b) := by by_cases h : a = b <;> simp [h]
theorem true_decide {q : Prop} [Decidable q] (h : q) : some true = some (decide q) := by simp [h]
theorem false_decide {q : Prop} [Decidable q] (h : ¬ q) : some false = some (decide q) := by simp [h]
theorem right_f (a0 a1 : Int) (l2 l3 l4 : List Int) (a5 a6 a7 : Int) (k : Nat) (hk : 5 < k) : header_Right.f k a0 a1 l2 l3 l4 a5 a6 a7 = some (decide (hright a0 a1 l2 l3 l4 a5 a6 a7)) := by
  obtain ⟨k, rfl⟩ : ∃ m, k = m + 1 := ⟨k - 1, by omega⟩
  unfold header_Right.f
  by_cases h1 : a7 < 1
  · rw [if_pos h1]; simp only [header_Right.j0]; rw [if_pos trivial]; exact false_decide (by unfold hright; omega)
  rw [if_neg h1]
  by_cases h4 : a7 > 4
  · rw [if_pos h4]; simp only [header_Right.j0]; rw [if_pos trivial]; exact false_decide (by unfold hright; omega)
  rw [if_neg h4, wide_f a6 a7 (by omega) (by omega)]
  simp only [Option.bind_some, header_Right.j0]
  by_cases hb : 0 ≤ a6 ∧ a6 < hbound a7
  · rw [decide_eq_true hb, if_neg (by decide), wide_f a1 4 (by omega) (by omega)]
    simp only [Option.bind_some, beq_decide, decide_eq_true_eq, show hbound 4 = 4294967296 from rfl]
    repeat' split
    all_goals first | exact true_decide (by unfold hright; omega) | exact false_decide (by unfold hright; omega) | exact some_decide (by unfold hright; omega)
  · rw [decide_eq_false hb, if_pos (by decide)]
    exact false_decide (by unfold hright; omega)
def hbytes (a0 a1 : Int) (l2 l3 l4 : List Int) (a5 a6 a7 n : Int) : List Int :=
  if a0 = 3 then [63 + 4 * a5 + a7] ++ l2 ++ hbig a6 a7
  else [191 + 16 * a0 + a7] ++ hbig a1 4 ++ ((l2.length : Int) :: l2) ++ ((l3.length : Int) :: l3) ++ (if a0 = 0 then vbytes l4.length ++ l4 else []) ++ vbytes (a7 + n) ++ hbig a6 a7
theorem named_f (l : List Int) (h : l.length ≤ 255) : header_named.f l = some ((l.length : Int) :: l) := by
  unfold header_named.f
  simp only [Option.bind_some]
  rw [if_pos (by simp; omega), show (l.length : Int) % 256 = l.length from by omega]
  rfl
theorem concat_f (y : List (List Int)) (h : y.flatten.length ≤ 140737488355328) : slices_Concat_byte_byte.f y = some y.flatten := by
  unfold slices_Concat_byte_byte.f
  rw [if_pos h]
theorem give_f (l p : List Int) (hl : l.length ≤ 100000) (hp : p.length ≤ 100000) (k : Nat) (hk : 9 < k) : varint_Give.f k l p = some (l ++ vbytes p.length ++ p) := by
  have h8 := vbytes_le (p.length : Int)
  unfold varint_Give.f
  rw [append_f l _ (by omega) k hk]
  simp only [Option.bind_some]
  rw [if_pos (by rw [List.length_append]; omega)]
theorem write_f (a0 a1 : Int) (l2 l3 l4 : List Int) (a5 a6 a7 n : Int) (k : Nat) (hk : 40 < k) : header_Write.f k a0 a1 l2 l3 l4 a5 a6 a7 n =
    some (if hright a0 a1 l2 l3 l4 a5 a6 a7 ∧ 0 ≤ n ∧ n ≤ 16384 then hbytes a0 a1 l2 l3 l4 a5 a6 a7 n else []) := by
  obtain ⟨k, rfl⟩ : ∃ m, k = m + 1 := ⟨k - 1, by omega⟩
  unfold header_Write.f
  rw [right_f _ _ _ _ _ _ _ _ _ (by omega)]
  simp only [Option.bind_some]
  by_cases h : hright a0 a1 l2 l3 l4 a5 a6 a7
  · rw [decide_eq_true h, if_pos rfl]
    by_cases h0 : n < 0
    · rw [if_pos h0, if_neg (by omega)]; simp only [header_Write.j0]; rw [if_pos trivial]
    rw [if_neg h0]
    by_cases h1 : n > 16384
    · rw [decide_eq_true h1, if_neg (by omega)]; simp only [header_Write.j0]; rw [if_pos trivial]
    rw [decide_eq_false h1, if_pos ⟨h, by omega, by omega⟩]
    simp only [header_Write.j0]
    rw [if_neg (by decide)]
    have hh := h
    unfold hright at hh
    have e1 := hbig_len a6 a7
    have e2 := hbig_len a1 4
    have e3 := vbytes_le (l4.length : Int)
    have e4 := vbytes_le (a7 + n)
    unfold hbytes
    by_cases h3 : a0 = 3
    · rw [if_pos h3, if_pos h3, big_f _ _ (by omega) (by omega) _ (by omega)]
      simp only [Option.bind_some]
      have w1 : wrap64 ((wrap64 ((wrap64 (64 + (wrap64 (4 * a5)))) + a7)) - 1) % 256 = 63 + 4 * a5 + a7 := by unfold wrap64; omega
      rw [w1, concat_f _ (by simp; omega)]
      simp
    · rw [if_neg h3, if_neg h3, big_f _ _ (by omega) (by omega) _ (by omega), big_f _ _ (by omega) (by omega) _ (by omega), named_f _ (by omega), named_f _ (by omega)]
      simp only [Option.bind_some]
      have w1 : wrap64 ((wrap64 ((wrap64 (192 + (wrap64 (16 * a0)))) + a7)) - 1) % 256 = 191 + 16 * a0 + a7 := by unfold wrap64; omega
      have w2 : wrap64 (a7 + n) = a7 + n := by unfold wrap64; omega
      rw [w1, w2, concat_f _ (by simp; omega)]
      simp only [Option.bind_some]
      by_cases h00 : a0 = 0
      · rw [if_pos h00, if_pos h00, give_f _ _ (by simp; omega) (by omega) _ (by omega)]
        simp only [Option.bind_some]
        rw [append_f _ _ (by simp; omega) _ (by omega)]
        simp only [Option.bind_some]
        rw [if_pos (by simp; omega)]
        simp
      · rw [if_neg h00, if_neg h00, append_f _ _ (by simp; omega) _ (by omega)]
        simp only [Option.bind_some]
        rw [if_pos (by simp; omega)]
        simp
  · rw [decide_eq_false h, if_neg (by decide), if_neg (by simp [h])]; simp only [header_Write.j0]; rw [if_pos trivial]
theorem awake_f (k : Nat) (hk : 40 < k) : shibbolethlaw05_awake.f k = some true := by
  unfold shibbolethlaw05_awake.f
  rw [if_pos (by omega), write_f _ _ _ _ _ _ _ _ _ k hk, if_pos (by decide)]
  simp only [Option.bind_some]
  decide
end Go.Proofs.YtpihkmpcnkhnfaaDoor.HeP
namespace Go.Proofs.YtpihkmpcnkhnfaaDoor.HrP
open Go.RowKit Go.Proofs.YtpihkmpcnkhnfaaDoorW.PrintWords Go.Proofs.YtpihkmpcnkhnfaaDoor.Vn Go.Proofs.YtpihkmpcnkhnfaaDoor.Hr Go.Proofs.YtpihkmpcnkhnfaaDoor.HeP
set_option linter.unusedVariables false
set_option linter.unusedSimpArgs false
end Go.Proofs.YtpihkmpcnkhnfaaDoor.HrP
namespace Go.Proofs.YtpihkmpcnkhnfaaDoor.QHc
open Go Go.RowKit Go.Proofs.YtpihkmpcnkhnfaaDoorW.PrintWords Go.Proofs.YtpihkmpcnkhnfaaDoorW.PrintLast Go.Proofs.YtpihkmpcnkhnfaaDoorW.PrintMore Go.Proofs.YtpihkmpcnkhnfaaDoor.QHe Go.Proofs.YtpihkmpcnkhnfaaDoor.HeP Go.Proofs.YtpihkmpcnkhnfaaDoor.Hr Go.Proofs.YtpihkmpcnkhnfaaDoor.HrP
set_option linter.unusedVariables false
set_option linter.unusedSimpArgs false
def Bt (l : List Int) : Prop := ∀ x ∈ l, 0 ≤ x ∧ x ≤ 255
instance (l : List Int) : Decidable (Bt l) := inferInstanceAs (Decidable (∀ x ∈ l, 0 ≤ x ∧ x ≤ 255))
end Go.Proofs.YtpihkmpcnkhnfaaDoor.QHc
namespace Go.Proofs.YtpihkmpcnkhnfaaDoor.Hsi
open Go Go.RowKit Go.Shelf Go.Proofs.YtpihkmpcnkhnfaaDoorW.PrintWords Go.Proofs.YtpihkmpcnkhnfaaDoorW.PrintLast Go.Proofs.YtpihkmpcnkhnfaaDoorW.PrintMore
attribute [local go_sem] Oper.semAt_some
open Go.Proofs.YtpihkmpcnkhnfaaDoor.Hr (hread Flds read_good read_error ReadPost)
open Go.Proofs.YtpihkmpcnkhnfaaDoor.QHc (Bt)
open Go.Proofs.YtpihkmpcnkhnfaaDoor.HsP (pks hread_fin hread_err)
set_option linter.unusedVariables false
set_option linter.unusedSimpArgs false
abbrev Pk := Flds × List Int × List Int
theorem rows5 {wr w1 w2 w3 w4 : World} {s1 s2 s3 s4 : Nat} {u2 u3 u4 uh ub : Value} {x2 x3 x4 xh xb : List Int} (b1 : Below wr.heap.size wr w1) (d2 : Below w1.heap.size w1 w2) (b3 : Below w2.drew.heap.size w2.drew w3) (b4 : Below w3.heap.size w3 w4)
    (hq : wr.heap.size ≤ s1 ∧ s1 ≤ s2 ∧ s2 ≤ s3 ∧ s3 ≤ s4) (rr : Kd.R (Kd.int .u8) 5 w1 s1 (fun k => s1 ≤ k ∧ k < s2) u2 x2 ∧ Kd.R (Kd.int .u8) 5 w1 s2 (fun k => s2 ≤ k ∧ k < s3) u3 x3 ∧ Kd.R (Kd.int .u8) 5 w1 s3 (fun k => s3 ≤ k ∧ k < s4) u4 x4)
    (r3 : Kd.R (Kd.int .u8) 5 w3 w2.drew.heap.size (fun _ => True) uh xh) (r4 : Kd.R (Kd.int .u8) 5 w4 w3.heap.size (fun _ => True) ub xb) :
    Below wr.heap.size wr w4 ∧ ∀ (v : Value) (x : List Int), (v = u2 ∧ x = x2) ∨ (v = u3 ∧ x = x3) ∨ (v = u4 ∧ x = x4) ∨ (v = uh ∧ x = xh) ∨ (v = ub ∧ x = xb) → Kd.R (Kd.int .u8) 5 w4 wr.heap.size (fun _ => True) v x := by
  have dd : Below w2.heap.size w2 w2.drew := below_drew (Below.refl _ _)
  have c4 : Below w1.heap.size w1 w4 := below_step (below_step (below_step d2 dd) b3) b4
  have z1 := b1.size
  have z2 := d2.size
  have z3 := b3.size
  have z : w2.drew.heap.size = w2.heap.size := rfl
  refine ⟨below_step b1 c4, ?_⟩
  rintro v x (⟨rfl, rfl⟩ | ⟨rfl, rfl⟩ | ⟨rfl, rfl⟩ | ⟨rfl, rfl⟩ | ⟨rfl, rfl⟩)
  · exact Kd.R_lower (Kd.R_mono (Kd.R_below rr.1 c4) (fun _ _ => trivial)) (by omega)
  · exact Kd.R_lower (Kd.R_mono (Kd.R_below rr.2.1 c4) (fun _ _ => trivial)) (by omega)
  · exact Kd.R_lower (Kd.R_mono (Kd.R_below rr.2.2 c4) (fun _ _ => trivial)) (by omega)
  · exact Kd.R_lower (Kd.R_below r3 b4) (by omega)
  · exact Kd.R_lower r4 (by omega)
theorem box5 {w2 w3 w4 W' : World} {Bn t : Nat} {v : Value} (h : Boxed w2 Bn t v) (b3 : Below w2.drew.heap.size w2.drew w3) (b4 : Below w3.heap.size w3 w4) (hB : W'.heap[Bn]? = w4.heap[Bn]?) : Boxed W' Bn t v := by
  have h2 : Boxed w2.drew Bn t v := h
  have h3 : Boxed w3 Bn t v := (b3.block Bn h2.lt).trans h2
  have h4 : Boxed w4 Bn t v := (b4.block Bn h3.lt).trans h3
  exact hB.trans h4
set_option maxHeartbeats 4000000 in
set_option maxRecDepth 100000 in
theorem each_calls (l Bn : Nat) (w0 : World) (b : List Int) (hl : b.length ≤ 100000) (hB : Bt b) (J : List Pk → World → Prop) (Jx : List Pk → Int → World → Prop)
    (hJb : ∀ ms W W', J ms W → Below W.heap.size W W' → J ms W') (hJs : ∀ ms W v, J ms W → J ms (W.setCell ⟨Bn, 0, none⟩ v)) (hJ0 : ∀ ms W, J ms W → Below w0.heap.size w0 W) (hBn : w0.heap.size ≤ Bn)
    (hN : ∀ ms W e, e ≠ 0 → J ms W → YieldAt Fence.wide 1 Tryd.prog l #[.agg #[.int .i64 0, .int .i64 0, .slice none 0 0, .slice none 0 0, .slice none 0 0, .int .i64 0, .int .i64 0, .int .i64 0, .slice none 0 0, .slice none 0 0], .int .i64 e] W fun en W' => en = .returned (.bool false) ∧ Jx ms e W')
    (hG : ∀ ms W1 W (fl : Flds) (hd bd : List Int) (v2 v3 v4 vh vb : Value), ms.length < b.length → J ms W1 → Below W1.heap.size W1 W → (∀ (v : Value) (x : List Int), (v = v2 ∧ x = fl.2.2.1) ∨ (v = v3 ∧ x = fl.2.2.2.1) ∨ (v = v4 ∧ x = fl.2.2.2.2.1) ∨ (v = vh ∧ x = hd) ∨ (v = vb ∧ x = bd) → Kd.R (Kd.int .u8) 5 W W1.heap.size (fun _ => True) v x) →
      YieldAt Fence.wide 1 Tryd.prog l #[.agg #[.int .i64 fl.1, .int .i64 fl.2.1, v2, v3, v4, .int .i64 fl.2.2.2.2.2.1, .int .i64 fl.2.2.2.2.2.2.1, .int .i64 fl.2.2.2.2.2.2.2, vh, vb], .int .i64 0] W fun en W' => en = .returned (.bool true) ∧ J (ms ++ [(fl, hd, bd)]) W' ∧ W'.heap[Bn]? = W.heap[Bn]?)
    (W : World) (A : Option Addr) (c : Nat) (hbx : Boxed W Bn 22 (.slice A b.length c)) (hC : Kd.C (Kd.int .u8) w0 A b.length b) (hc : b.length ≤ c) (h0 : J [] W) :
    CallsIn Fence.wide 2 Tryd.prog 25 #[.func (.yield l) #[] #[], .pointer (some ⟨Bn, 0, none⟩)] W fun e W' => (∃ v, e = .returned v) ∧ (((pks (b.length + 1) b).2 = 0 ∧ J (pks (b.length + 1) b).1 W') ∨ ((pks (b.length + 1) b).2 ≠ 0 ∧ Jx (pks (b.length + 1) b).1 (pks (b.length + 1) b).2 W')) := by
  refine callsIn_of_wp Tryd.func25 rfl trivial ?_ rfl
  simp only [Tryd.ntmps25, List.size_toArray, List.length_cons, List.length_nil, Nat.reduceAdd, Nat.reduceSub, Array.replicate_succ, Array.replicate_zero, List.push_toArray, List.append_toArray, List.nil_append, List.cons_append]
  have BX := Aside0.mk hbx
  have HC := Aside0.mk hC
  have HJ := Aside0.mk h0
  have AN := Aside0.mk hN
  have AG := Aside0.mk hG
  have AB := Aside0.mk hJb
  have AS := Aside0.mk hJs
  have A0 := Aside0.mk hJ0
  have BB := Aside0.mk hB
  clear hbx hC h0 hN hG hJb hJs hJ0 hB
  gi_wp2
  gi_loopg [3, 4, 5, 6] b.length (fun gg v3 v4 v5 v6 wr => ∃ (ms : List Pk) (rest : List Int) (f : Nat) (A : Option Addr) (c : Nat), rest.length ≤ gg ∧ rest.length < f ∧ Aside0 (pks (b.length + 1) b = (ms ++ (pks f rest).1, (pks f rest).2)) ∧ Aside0 (J ms wr) ∧ Aside0 (Boxed wr Bn 22 (.slice A rest.length c)) ∧ Aside0 (Kd.C (Kd.int .u8) w0 A rest.length rest) ∧ rest.length ≤ c ∧ Aside0 (Bt rest) ∧ Aside0 (ms.length + rest.length ≤ b.length))
  case atStart => exact ⟨[], b, b.length + 1, A, c, Nat.le_refl _, by omega, ⟨by simp⟩, HJ, BX, HC, hc, BB, ⟨by simp⟩⟩
  case round =>
    obtain ⟨ms, rest, f, A', c', hg, hf, HP, HJ', BX', HC', hc', BB', HL⟩ := hrel
    clear HJ BX HC
    have hcell := BX'.out.cell
    by_cases he : rest = []
    · subst he
      have hcell : wr.cell? { block := Bn, off := 0 } = some (Value.slice A' 0 c') := hcell
      have HPn : Aside0 (pks (b.length + 1) b = (ms, 0)) := ⟨by rw [HP.out]; cases f <;> simp [pks]⟩
      clear hg hf HP BX' HC' hc' BB' HL
      gi_wp2
      go_end0
      exact ⟨⟨_, rfl⟩, .inl (by rw [HPn.out]; exact ⟨rfl, HJ'.out⟩)⟩
    · have hpos : 0 < rest.length := List.length_pos_iff.mpr he
      have p0 : decide ((0 : Int) < (rest.length : Int)) = true := decide_eq_true (by omega)
      have p1 : decide (0 < rest.length) = true := decide_eq_true hpos
      have HE := Aside0.mk he
      have HFF := Aside0.mk hf
      have HG := Aside0.mk hg
      have HC0 := Aside0.mk hc'
      have HPOS := Aside0.mk hpos
      obtain ⟨f', rfl⟩ : ∃ f', f = f' + 1 := ⟨f - 1, by omega⟩
      have HRL := Aside0.mk (show rest.length ≤ 100000 by have := HL.out; omega)
      clear he hf hg hc' hpos
      rcases hr : hread rest with er | ⟨fl, p, fin⟩
      · have HR := read_error wr A' c' rest (Kd.C_below HC'.out (A0.out _ _ HJ'.out)) HC0.out HRL.out BB'.out er hr
        have HPe : Aside0 (pks (b.length + 1) b = (ms, er)) := ⟨by rw [HP.out]; show (ms ++ (if rest = [] then (([] : List Pk), (0 : Int)) else match hread rest with | .error e => ([], e) | .ok (fl, p, fin) => _).1, (if rest = [] then (([] : List Pk), (0 : Int)) else match hread rest with | .error e => ([], e) | .ok (fl, p, fin) => _).2) = _; rw [if_neg HE.out, hr]; simp⟩
        have hne := hread_err hr
        have d3 : (er != 0) = true := by simpa using hne
        have HNE := Aside0.mk hne
        clear hr HP hne
        gi_wp2_with (first | (refine ⟨trivial, ?_⟩; gi_at_call 26; refine (callsIn_wide.2 HR).mono ?_; rintro e1 w1 ⟨rfl, hb1⟩; have B1 := Aside0.mk hb1; clear hb1))
        obtain ⟨fn, tm, asg, bd, hy, hR⟩ := AN.out ms (w1.alloc (.cells #[.int .i64 0, .int .i64 0, .slice none 0 0, .slice none 0 0, .slice none 0 0, .int .i64 0, .int .i64 0, .int .i64 0] 33)) er HNE.out (AB.out _ _ _ HJ'.out (below_alloc B1.out _))
        rw [hy]
        gi_wp2
        refine hR.mono ?_
        rintro e W' ⟨rfl, hx⟩
        gi_wp2
        refine bodyPost_ret (results_none rfl _ _ _) rfl ?_
        exact ⟨⟨_, rfl⟩, .inr (by rw [HPe.out]; exact ⟨HNE.out, hx⟩)⟩
      · have HR := read_good wr A' c' rest (Kd.C_below HC'.out (A0.out _ _ HJ'.out)) HC0.out HRL.out BB'.out fl p fin hr
        obtain ⟨hp1, hp2, hp3⟩ := hread_fin BB'.out hr
        obtain ⟨F, rfl⟩ := Int.eq_ofNat_of_zero_le (show 0 ≤ fin by omega)
        have HPF := Aside0.mk (show 1 ≤ p ∧ p ≤ F ∧ F ≤ rest.length by omega)
        obtain ⟨i05, hi5, _, hsz5, _⟩ := info_parts Hr.info5
        obtain ⟨hs4, hR4, hc4⟩ := print_take_of (P := Tryd.prog) (Value.int .u8) (0 : Int) 22 5 .i64 Tryd.underlying22 hi5 hsz5 A' c' rest (p : Int) (by omega) (by omega) HC0.out
        obtain ⟨A5, hs5, hR5, hc5⟩ := print_mid_of (P := Tryd.prog) (Value.int .u8) (0 : Int) 22 5 .i64 .i64 Tryd.underlying22 hi5 hsz5 A' c' rest (p : Int) (F : Int) (by omega) (by omega) (by omega) HC0.out
        simp only [Int.toNat_natCast] at hs4 hR4 hc4 hs5 hR5 hc5
        obtain ⟨A6, hs6, hR6, hc6⟩ := print_drop_of (P := Tryd.prog) (Value.int .u8) (0 : Int) 22 5 .i64 Tryd.underlying22 hi5 hsz5 A' c' rest (F : Int) (by omega) (by omega) HC0.out
        simp only [Int.toNat_natCast] at hs6 hR6 hc6
        obtain ⟨dr, edr⟩ : ∃ dr, rest.drop F = dr := ⟨_, rfl⟩
        rw [edr] at hs6 hR6 hc6
        have HC6 := Aside0.mk (show Kd.C (Kd.int .u8) w0 A6 dr.length dr from Kd.C_of_reads (h1 := fun _ => rfl) (hR6 _ (Kd.reads_of_C HC'.out)))
        have HCC6 := Aside0.mk hc6
        have HDr := Aside0.mk edr
        clear hR6 hc6 edr
        obtain ⟨hd, ehd⟩ : ∃ hd, rest.take p = hd := ⟨_, rfl⟩
        obtain ⟨bd, ebd⟩ : ∃ bd, (rest.take F).drop p = bd := ⟨_, rfl⟩
        rw [ehd] at hs4 hR4 hc4
        rw [ebd] at hs5 hR5 hc5
        have HC4 := Aside0.mk (show Kd.C (Kd.int .u8) w0 A' hd.length hd from Kd.C_of_reads (h1 := fun _ => rfl) (hR4 _ (Kd.reads_of_C HC'.out)))
        have HC5 := Aside0.mk (show Kd.C (Kd.int .u8) w0 A5 bd.length bd from Kd.C_of_reads (h1 := fun _ => rfl) (hR5 _ (Kd.reads_of_C HC'.out)))
        have HCC4 := Aside0.mk hc4
        have HCC5 := Aside0.mk hc5
        have HHd := Aside0.mk (And.intro ehd ebd)
        have HRR := Aside0.mk hr
        clear hi5 hsz5 hR4 hc4 hR5 hc5 ehd ebd hr hp1 hp2 hp3
        obtain ⟨kd, ver, tO, fr, tk, ph, nm, wd⟩ := fl
        gi_wp2_with (first | (refine ⟨trivial, ?_⟩; gi_at_call 26; refine (callsIn_wide.2 HR).mono ?_; rintro e1 w1 ⟨v2, v3, v4, rfl, ⟨s1, s2, s3, s4, q1, q2, q3, q4, r2, r3, r4⟩, hb1⟩; obtain ⟨E2, f2, rfl⟩ := Kd.R_slice r2; obtain ⟨E3, f3, rfl⟩ := Kd.R_slice r3; obtain ⟨E4, f4, rfl⟩ := Kd.R_slice r4; have RR := Aside0.mk (And.intro r2 (And.intro r3 r4)); have QQ := Aside0.mk (And.intro q1 (And.intro q2 (And.intro q3 q4))); have B1 := Aside0.mk hb1; clear hb1 r2 r3 r4 q1 q2 q3 q4))
        have SZ := (show (w1.alloc (.cells #[.int .i64 kd, .int .i64 ver, .slice E2 tO.length f2, .slice E3 fr.length f3, .slice E4 tk.length f4, .int .i64 ph, .int .i64 nm, .int .i64 wd] 33)).heap.size = w1.heap.size + 1 from World.size_alloc _ _)
        obtain ⟨w2, hw2⟩ : ∃ x, w1.alloc (.cells #[.int .i64 kd, .int .i64 ver, .slice E2 tO.length f2, .slice E3 fr.length f3, .slice E4 tk.length f4, .int .i64 ph, .int .i64 nm, .int .i64 wd] 33) = x := ⟨_, rfl⟩
        have x0 : w2.cell? ⟨w1.heap.size, 0, none⟩ = some (.int .i64 kd) := by rw [← hw2, World.cell?_alloc_at _ _ _ _ rfl]; rfl
        have x1 : w2.cell? ⟨w1.heap.size, 1, none⟩ = some (.int .i64 ver) := by rw [← hw2, World.cell?_alloc_at _ _ _ _ rfl]; rfl
        have x2 : w2.cell? ⟨w1.heap.size, 2, none⟩ = some (.slice E2 tO.length f2) := by rw [← hw2, World.cell?_alloc_at _ _ _ _ rfl]; rfl
        have x3 : w2.cell? ⟨w1.heap.size, 3, none⟩ = some (.slice E3 fr.length f3) := by rw [← hw2, World.cell?_alloc_at _ _ _ _ rfl]; rfl
        have x4 : w2.cell? ⟨w1.heap.size, 4, none⟩ = some (.slice E4 tk.length f4) := by rw [← hw2, World.cell?_alloc_at _ _ _ _ rfl]; rfl
        have x5 : w2.cell? ⟨w1.heap.size, 5, none⟩ = some (.int .i64 ph) := by rw [← hw2, World.cell?_alloc_at _ _ _ _ rfl]; rfl
        have x6 : w2.cell? ⟨w1.heap.size, 6, none⟩ = some (.int .i64 nm) := by rw [← hw2, World.cell?_alloc_at _ _ _ _ rfl]; rfl
        have x7 : w2.cell? ⟨w1.heap.size, 7, none⟩ = some (.int .i64 wd) := by rw [← hw2, World.cell?_alloc_at _ _ _ _ rfl]; rfl
        have D2 := Aside0.mk (show Below w1.heap.size w1 w2 by rw [← hw2]; exact below_alloc (Below.refl _ _) _)
        have BX2 := Aside0.mk (show Boxed w2 Bn 22 (.slice A' rest.length c') by rw [← hw2]; exact Boxed.alloc (show Boxed w1 Bn 22 (.slice A' rest.length c') from (B1.out.block Bn BX'.out.lt).trans BX'.out) _)
        rw [hw2] at SZ ⊢
        have b0 := BX2.out.cell
        obtain ⟨hb, ehb⟩ : ∃ hb, w1.heap.size = hb := ⟨_, rfl⟩
        rw [ehb] at x0 x1 x2 x3 x4 x5 x6 x7 ⊢
        have BL2 := Aside0.mk (below_step (A0.out _ _ HJ'.out) (below_step B1.out D2.out))
        have CL1 := Aside0.mk (Gv.slices_Clone_byte_byte.calls A' c' hd hd w2.drew (Kd.C_below HC4.out (below_drew BL2.out)) HCC4.out (by unfold Gv.slices_Clone_byte_byte.f; exact if_pos (by have h1 := HHd.out.1; have h2 := HRL.out; rw [← h1]; simp; omega)))
        have CL2 := Aside0.mk (fun (W : World) (hb : Below w2.drew.heap.size w2.drew W) => Gv.slices_Clone_byte_byte.calls A5 (c' - p) bd bd W (Kd.C_below HC5.out (below_step (below_drew BL2.out) hb)) HCC5.out (by unfold Gv.slices_Clone_byte_byte.f; exact if_pos (by have h1 := HHd.out.2; have h2 := HRL.out; rw [← h1]; simp; omega)))
        have hfm : Tryd.prog.follows .mixedOrders = true := by kernel_rfl
        clear hw2 SZ hcell HR
        gi_region_with_o (first
          | (refine ⟨trivial, ?_⟩; gi_at_call 27; refine (callsIn_wide.2 CL1.out).mono ?_; rintro e3 w3 ⟨vh, rfl, hR3, hb3⟩; obtain ⟨Ah, ch, rfl⟩ := Kd.R_slice hR3; have R3 := Aside0.mk hR3; have B3 := Aside0.mk hb3; have y0 := pw_cell_below hb3 ((World.cell?_drew _ _).trans x0); have y1 := pw_cell_below hb3 ((World.cell?_drew _ _).trans x1); have y2 := pw_cell_below hb3 ((World.cell?_drew _ _).trans x2); have y3 := pw_cell_below hb3 ((World.cell?_drew _ _).trans x3); have y4 := pw_cell_below hb3 ((World.cell?_drew _ _).trans x4); have y5 := pw_cell_below hb3 ((World.cell?_drew _ _).trans x5); have y6 := pw_cell_below hb3 ((World.cell?_drew _ _).trans x6); have y7 := pw_cell_below hb3 ((World.cell?_drew _ _).trans x7); have y8 := pw_cell_below hb3 ((World.cell?_drew _ _).trans b0); clear hR3 hb3)
          | (refine ⟨trivial, ?_⟩; gi_at_call 27; refine (callsIn_wide.2 (CL2.out _ B3.out)).mono ?_; rintro e4 w4 ⟨vb, rfl, hR4, hb4⟩; obtain ⟨Ab, cb, rfl⟩ := Kd.R_slice hR4; have R4 := Aside0.mk hR4; have B4 := Aside0.mk hb4; have z0 := pw_cell_below hb4 y0; have z1 := pw_cell_below hb4 y1; have z2 := pw_cell_below hb4 y2; have z3 := pw_cell_below hb4 y3; have z4 := pw_cell_below hb4 y4; have z5 := pw_cell_below hb4 y5; have z6 := pw_cell_below hb4 y6; have z7 := pw_cell_below hb4 y7; clear hR4 hb4)
          | (refine hRd.mono ?_; rintro e5 W' ⟨rfl, hJn, hBn'⟩; have HJn := Aside0.mk hJn; have HBnn := Aside0.mk hBn'; clear hJn hBn')
          | (obtain ⟨fn, tm, asg, bdy, hy, hRd⟩ := AG.out ms wr w4 (kd, ver, tO, fr, tk, ph, nm, wd) hd bd (.slice E2 tO.length f2) (.slice E3 fr.length f3) (.slice E4 tk.length f4) (.slice Ah hd.length ch) (.slice Ab bd.length cb) (by have h1 := HL.out; have h2 := HPOS.out; omega) HJ'.out (rows5 B1.out D2.out B3.out B4.out QQ.out RR.out R3.out R4.out).1 (rows5 B1.out D2.out B3.out B4.out QQ.out RR.out R3.out R4.out).2; rw [hy]))
        all_goals
          have BXW := Aside0.mk (box5 BX2.out B3.out B4.out HBnn.out)
          have cW := BXW.out.cell
          have fW := BXW.out.frozen
          clear x0 x1 x2 x3 x4 x5 x6 x7 b0 y0 y1 y2 y3 y4 y5 y6 y7 y8 z0 z1 z2 z3 z4 z5 z6 z7
          gi_wp2
          gi_roundg dr.length
          case measure => have h1 := HG.out; have h2 := HPF.out; have h3 := HDr.out; rw [← h3]; simp; omega
          case rel =>
            have hlen : dr.length = rest.length - F := by rw [← HDr.out]; simp
            refine ⟨ms ++ [((kd, ver, tO, fr, tk, ph, nm, wd), hd, bd)], dr, f', A6, c' - F, Nat.le_refl _, ?_, ⟨?_⟩, ⟨AS.out _ _ _ HJn.out⟩, ⟨BXW.out.set _⟩, HC6, HCC6.out, ⟨?_⟩, ⟨?_⟩⟩
            · have := HFF.out; have := HPF.out; omega
            · rw [HP.out]
              show (ms ++ (if rest = [] then (([] : List Pk), (0 : Int)) else match hread rest with | .error e => ([], e) | .ok (fl, p, fin) => ((fl, rest.take p, (rest.take fin.toNat).drop p) :: (pks f' (rest.drop fin.toNat)).1, (pks f' (rest.drop fin.toNat)).2)).1, (if rest = [] then (([] : List Pk), (0 : Int)) else match hread rest with | .error e => ([], e) | .ok (fl, p, fin) => ((fl, rest.take p, (rest.take fin.toNat).drop p) :: (pks f' (rest.drop fin.toNat)).1, (pks f' (rest.drop fin.toNat)).2)).2) = _
              rw [if_neg HE.out, HRR.out]
              simp only [Int.toNat_natCast, HHd.out.1, HHd.out.2, HDr.out]
              simp
            · rw [← HDr.out]; exact fun y hy => BB'.out y (List.mem_of_mem_drop hy)
            · have := HL.out; have := HPF.out; simp; omega
end Go.Proofs.YtpihkmpcnkhnfaaDoor.Hsi
namespace Go.Proofs.YtpihkmpcnkhnfaaDoor.Rng
open Go Go.RowKit Go.Shelf
set_option linter.unusedVariables false
structure RecOf (rec : LoopState → Option Code → Loop) (fn : FuncId) (tmps : Array Value) (ps : Array Tmp) (assign body : Code) : Prop where
  state : ∀ st pe, (rec st pe).state = st
  pending : ∀ st pe, (rec st pe).pending = pe
  fn_ : ∀ st pe, (rec st pe).fn = fn
  tmps_ : ∀ st pe, (rec st pe).tmps = tmps
  params : ∀ st pe, (rec st pe).params = ps
  assign_ : ∀ st pe, (rec st pe).assign = assign
  body_ : ∀ st pe, (rec st pe).body = body
  setS : ∀ st pe st', { rec st pe with state := st' } = rec st' pe
  setP : ∀ st pe st' pe', { rec st pe with state := st', pending := pe' } = rec st' pe'
section
variable {rec : LoopState → Option Code → Loop} {fn : FuncId} {tmps : Array Value} {ps : Array Tmp} {assign body : Code} {P : Program} {W : World} {l : Nat}
theorem RecOf.yield (h : RecOf rec fn tmps ps assign body) {args : Array Value} (hl : W.heap[l]? = some (.loop (rec .ready none))) (hs : args.size = ps.size) :
    (Instr.yield l args).run P W = .ok (.round l fn ((ps.zip args).foldl (fun t (p, v) => t.setIfInBounds p v) tmps) assign body) W := by
  have h1 := run_yield (P := P) (args := args) hl (by rw [h.params]; exact hs)
  rw [h.fn_, h.params, h.tmps_, h.assign_, h.body_] at h1
  exact h1
theorem RecOf.begin_ (h : RecOf rec fn tmps ps assign body) (hl : W.heap[l]? = some (.loop (rec .ready none))) :
    (Instr.beginRound l).run P W = .ok () (W.putObj l (.loop (rec .busy none))) := by
  have h1 := run_beginRound (P := P) hl (h.state _ _)
  rw [h.setS] at h1
  exact h1
theorem RecOf.end_ (h : RecOf rec fn tmps ps assign body) (jump : Option Code) (hl : W.heap[l]? = some (.loop (rec .busy none))) :
    (Instr.endRound l jump).run P W = .ok (.bool jump.isNone) (W.putObj l (.loop (rec (if jump.isNone then .ready else .done) jump))) := by
  have h1 := run_endRound (P := P) jump hl
  rw [h.setP] at h1
  exact h1
theorem RecOf.endLoop (h : RecOf rec fn tmps ps assign body) {st : LoopState} {pe : Option Code} (hl : W.heap[l]? = some (.loop (rec st pe))) (hs : st ≠ .busy) :
    (Instr.endLoop l).run P W = .ok pe (W.putObj l (.loop (rec .exhausted pe))) := by
  have h1 := run_endLoop (P := P) hl (by rw [h.state]; exact hs)
  rw [h.setS, h.pending] at h1
  exact h1
end
theorem open_range {F : Fence} {n : Nat} {P : Program} {g : Operand} {ps : Array Tmp} {assign body : Code} {Q : Exit → Act → World → Prop} {a : Act} {w : World} {gf : Nat} {lb : Array Value} (hro : F.round = none) (h1 : 1 ≤ n) (hF : F.fn gf)
    (hg : a.eval g = .func (.func gf) #[] lb) (eg : ∀ args w, (callFunc gf args).run P w = .ok (.enter gf args) w)
    (h : ∀ (fn : FuncId) (rec : LoopState → Option Code → Loop) (W1 : World), F.fn fn → RecOf rec fn a.tmps ps assign body → W1 = (w.alloc (.deferred (some []))).alloc (.loop (rec .ready none)) → CallsIn F (n - 1) P gf (#[.func (.yield (w.heap.size + 1)) #[] #[]] ++ lb) W1
      (rangePost F n P (w.heap.size + 1) Q { a with defers := [{ target := .collected w.heap.size, args := #[] }] ++ a.defers })) :
    (Code.rangeFunc g ps assign body).wpIn F n P Q a w := by
  refine wpIn_rangeFunc ?_
  intro fn hfn
  rw [hro]
  obtain ⟨rec, hrec⟩ : ∃ rec : LoopState → Option Code → Loop, rec = fun st pe => { state := st, pending := pe, fn := fn, tmps := a.tmps, params := ps, assign := assign, body := body, defers := w.heap.size } := ⟨_, rfl⟩
  obtain ⟨W1, hW1⟩ : ∃ W1, (w.alloc (.deferred (some []))).alloc (.loop (rec .ready none)) = W1 := ⟨_, rfl⟩
  refine ⟨w.heap.size + 1, [{ target := .collected w.heap.size, args := #[] }], W1, { target := .fn (.func gf) lb, args := #[.func (.yield (w.heap.size + 1)) #[] #[]] }, W1, gf,
    #[.func (.yield (w.heap.size + 1)) #[] #[]] ++ lb, W1, ?_, ?_, ?_, ?_, fun _ => h1, ?_⟩
  rotate_left 4
  · refine h fn rec W1 hfn ?_ hW1.symm
    rw [hrec]
    exact ⟨fun _ _ => rfl, fun _ _ => rfl, fun _ _ => rfl, fun _ _ => rfl, fun _ _ => rfl, fun _ _ => rfl, fun _ _ => rfl, fun _ _ _ => rfl, fun _ _ _ _ => rfl⟩
  · rw [← hW1, hrec]; exact run_enterLoop_outer _ _ _ _ _
  · simp only [resolve, hg]
    simp [go_sem]
  · intro f' hf'
    simp [Target.leads] at hf'
    subst hf'
    exact hF
  · simp [invoke, go_sem, eg]
end Go.Proofs.YtpihkmpcnkhnfaaDoor.Rng
namespace Go.Proofs.YtpihkmpcnkhnfaaDoor.Hsi
open Go Go.RowKit Go.Shelf Go.Proofs.YtpihkmpcnkhnfaaDoorW.PrintWords Go.Proofs.YtpihkmpcnkhnfaaDoorW.PrintLast Go.Proofs.YtpihkmpcnkhnfaaDoorW.PrintMore
attribute [local go_sem] Oper.semAt_some
open Go.Proofs.YtpihkmpcnkhnfaaDoor.Onl (Only)
open Go.Proofs.YtpihkmpcnkhnfaaDoor.Hr (hread Flds)
open Go.Proofs.YtpihkmpcnkhnfaaDoor.QHc (Bt)
open Go.Proofs.YtpihkmpcnkhnfaaDoor.HsP (pks hread_fin hread_err)
open Go.Proofs.YtpihkmpcnkhnfaaDoor.Rng
set_option linter.unusedVariables false
set_option linter.unusedSimpArgs false
abbrev KB : Kd (List Int) := Kd.slice 5 (Kd.int .u8)
def kP : Kd Pk := Kd.iso (Kd.pair (Kd.int .i64) (Kd.pair (Kd.int .i64) (Kd.pair KB (Kd.pair KB (Kd.pair KB (Kd.pair (Kd.int .i64) (Kd.pair (Kd.int .i64) (Kd.pair (Kd.int .i64) (Kd.pair KB KB)))))))))
  (fun x : Pk => (x.1.1, x.1.2.1, x.1.2.2.1, x.1.2.2.2.1, x.1.2.2.2.2.1, x.1.2.2.2.2.2.1, x.1.2.2.2.2.2.2.1, x.1.2.2.2.2.2.2.2, x.2.1, x.2.2))
theorem kP_mkM (w : World) (base : Nat) (ok : Nat → Prop) (x : Pk) {v2 v3 v4 vh vb : Value} (g2 : (Kd.int .u8).R 5 w base ok v2 x.1.2.2.1) (g3 : (Kd.int .u8).R 5 w base ok v3 x.1.2.2.2.1) (g4 : (Kd.int .u8).R 5 w base ok v4 x.1.2.2.2.2.1) (gh : (Kd.int .u8).R 5 w base ok vh x.2.1) (gb : (Kd.int .u8).R 5 w base ok vb x.2.2) :
    kP.M w base ok x [.int .i64 x.1.1, .int .i64 x.1.2.1, v2, v3, v4, .int .i64 x.1.2.2.2.2.2.1, .int .i64 x.1.2.2.2.2.2.2.1, .int .i64 x.1.2.2.2.2.2.2.2, vh, vb] :=
  ⟨[_], _, rfl, rfl, [_], _, rfl, rfl, [_], _, rfl, ⟨v2, rfl, g2⟩, [_], _, rfl, ⟨v3, rfl, g3⟩, [_], _, rfl, ⟨v4, rfl, g4⟩, [_], _, rfl, rfl, [_], _, rfl, rfl, [_], _, rfl, rfl, [_], [_], rfl, ⟨vh, rfl, gh⟩, ⟨vb, rfl, gb⟩⟩
abbrev KS := Kd.S kP 35
theorem info82 : (Tryd.prog.info? 35).map (fun i => (i.zero, i.size, i.bytes)) = some (some (.agg #[.int .i64 0, .int .i64 0, .slice none 0 0, .slice none 0 0, .slice none 0 0, .int .i64 0, .int .i64 0, .int .i64 0, .slice none 0 0, .slice none 0 0]), 10, 160) := by kernel_rfl
theorem R_append_in {F : Fence} {nF : Nat} {P : Program} {ops : Array Oper} {rest : List Oper} {o : Oper} {a : Act} {Q : Exit → Act → World → Prop} {α : Type} (d : Kd α) {W : World} (base : Nat) (hgd : o.guard = none) (s x : Operand) (t e : TypeId) (z : Value) (bytes : Nat)
    (ho : o.op = .call { callee := .builtin .append, args := #[s, x], argTypes := #[t, t] })
    (ht : P.underlying t = some (.slice e)) (hinfo : (P.info? e).map (fun i => (i.zero, i.size, i.bytes)) = some (some z, d.sz, bytes)) (hz : z.cells.size = d.sz) (hs0 : 0 < d.sz) (hb0 : 0 < bytes)
    (v : Value) (xs : List α) (p : α) (cs : List Value) (ok okp : Nat → Prop) (hs : a.eval s = v) (hx : a.eval x = .slice (some ⟨W.heap.size, 0, none⟩) 1 1) (hp : d.M W base okp p cs) (hokp : ∀ k, okp k → ok k ∧ some k ≠ v.ownBlock) (hfresh : ∀ k, W.heap.size ≤ k → ok k)
    (HO : d.R e W base ok v xs) (hbase : base ≤ W.heap.size) (hl : (xs.length + 1) * bytes ≤ 140737488355328)
    (h : ∀ v1 w1, d.R e w1 base ok v1 (xs ++ [p]) → W.grownBy w1 v.ownBlock → wpListIn F nF P ops Q rest (a.put o.dst v1) w1) :
    wpListIn F nF P ops Q (o :: rest) a (W.alloc (.cells cs.toArray e)) := by
  obtain ⟨h0, inner, hown, hr⟩ := HO
  have hys := d.K_len (d.K_of_M hp)
  have h1 := d.K_one (d.K_of_M hp)
  obtain ⟨i0, hi, hzz⟩ := Option.map_eq_some_iff.1 hinfo
  simp only [Prod.mk.injEq] at hzz
  obtain ⟨hz0, hz1, hz2⟩ := hzz
  have hlen : xs.length + 1 ≤ 140737488355328 := Nat.le_trans (Nat.le_mul_of_pos_right _ hb0) hl
  refine wpListIn_append_own_at (W.alloc (.cells cs.toArray e)) hgd s x t ho base e i0 z d.sz bytes ht hi hz0 hz1 hz2 hz hs0 v xs.length inner hs (hown.alloc _) ⟨W.heap.size, 0, none⟩ 1 1 cs hx (by rw [hys]; simp)
    (by simpa using World.news_of_block (cs := cs.toArray) (t := e) (fr := (0, 0)) (heap_alloc_new W (.cells cs.toArray e))) h1 (by simp only [maxLen]; omega) hl (by simp; omega) ?_
  intro v1 w1 hown1 hg1 _ hat
  have hg : W.grownBy w1 v.ownBlock := World.grownBy.trans (World.grownBy_alloc W _ _) hg1
  refine h v1 w1 (Kd.R_appended h0 hr hp hokp hfresh hown1 hg ?_) hg
  rcases hat with hat | hat
  · exact .inl hat
  · exact .inr ⟨_, hat, by simp⟩
theorem S_append_in {F : Fence} {nF : Nat} {P : Program} {ops : Array Oper} {rest : List Oper} {o : Oper} {a : Act} {Q : Exit → Act → World → Prop} {α : Type} (d : Kd α) {W : World} (base : Nat) (hgd : o.guard = none) (s x : Operand) (t e : TypeId) (z : Value) (bytes : Nat)
    (ho : o.op = .call { callee := .builtin .append, args := #[s, x], argTypes := #[t, t] })
    (ht : P.underlying t = some (.slice e)) (hinfo : (P.info? e).map (fun i => (i.zero, i.size, i.bytes)) = some (some z, d.sz, bytes)) (hz : z.cells.size = d.sz) (hs0 : 0 < d.sz) (hb0 : 0 < bytes)
    (v : Value) (xs : List α) (p : α) (cs : List Value) (ok okp : Nat → Prop) (hs : a.eval s = v) (hx : a.eval x = .slice (some ⟨W.heap.size, 0, none⟩) 1 1) (hp : d.M W base okp p cs) (hokp : ∀ k, okp k → ok k ∧ some k ≠ v.ownBlock) (hfresh : ∀ k, W.heap.size ≤ k → ok k)
    (HO : Kd.S d e W base (fun k => ok k ∧ ¬ okp k) v xs) (hbase : base ≤ W.heap.size) (hl : (xs.length + 1) * bytes ≤ 140737488355328)
    (h : ∀ v1 w1, Kd.S d e w1 base ok v1 (xs ++ [p]) → W.grownBy w1 v.ownBlock → wpListIn F nF P ops Q rest (a.put o.dst v1) w1) :
    wpListIn F nF P ops Q (o :: rest) a (W.alloc (.cells cs.toArray e)) := by
  obtain ⟨f, hf, hR⟩ := Kd.S_tag HO xs.length okp (fun _ hk h2 => h2.2 hk)
  refine R_append_in (Kd.tag f d) base hgd s x t e z bytes ho ht hinfo hz hs0 hb0 v xs.zipIdx (p, xs.length) cs ok okp hs hx (d.M_mono (fun k hk => ⟨hk, hf k hk⟩) hp) hokp hfresh (Kd.R_mono hR (fun _ hk => hk.1)) hbase (by rw [List.length_zipIdx]; exact hl) ?_
  intro v1 w1 hr
  rw [← Kd.zip_snoc] at hr
  exact h v1 w1 ⟨f, hr⟩
structure Om (w : World) (H1 D E : Nat) (v : Value) (ms : List Pk) (W : World) : Prop where
  bl : Below w.heap.size w W
  r0 : Boxed W w.heap.size 23 v
  r1 : Boxed W H1 24 (.int .i64 0)
  R : KS W E (fun _ => True) v ms
  df : W.heap[D]? = some (.deferred (some []))
  sz : E ≤ W.heap.size
theorem boxed_only {p : Nat → Prop} {W W' : World} {B t : Nat} {u : Value} (h : Boxed W B t u) (ho : Only p W W') (hp : ¬ p B) : Boxed W' B t u := (ho.block B h.lt hp).trans h
theorem R_only {α : Type} {d : Kd α} {e base : Nat} {p : Nat → Prop} {W W' : World} {v : Value} {xs : List α} (h : d.R e W base (fun _ => True) v xs) (ho : Only p W W') (hp : ∀ k, p k → k < base) : d.R e W' base (fun _ => True) v xs :=
  Kd.R_mono (Kd.R_move (Kd.R_bound h) (fun k hk => ho.block k hk.2.2.1 (fun q => by have := hp k q; have := hk.2.1; omega))) (fun _ _ => trivial)
theorem S_only {α : Type} {d : Kd α} {e base : Nat} {p : Nat → Prop} {W W' : World} {v : Value} {xs : List α} (h : Kd.S d e W base (fun _ => True) v xs) (ho : Only p W W') (hp : ∀ k, p k → k < base) : Kd.S d e W' base (fun _ => True) v xs :=
  Kd.S_mono (Kd.S_move (Kd.S_bound h) (fun k hk => ho.block k hk.2.2.1 (fun q => by have := hp k q; have := hk.2.1; omega))) (fun _ _ => trivial)
theorem S_old {α : Type} {d : Kd α} {e base : Nat} {p : Nat → Prop} {W W' : World} {v : Value} {xs : List α} (h : Kd.S d e W base (fun _ => True) v xs) (ho : Only p W W') (hp : ∀ k, p k → k < base) : Kd.S d e W' base (fun k => True ∧ ¬ (W.heap.size ≤ k)) v xs :=
  Kd.S_mono (Kd.S_move (Kd.S_bound h) (fun k hk => ho.block k hk.2.2.1 (fun q => by have := hp k q; have := hk.2.1; omega))) (fun _ hk => ⟨trivial, by have := hk.2.2.1; omega⟩)
theorem Om.only {w : World} {H1 D E : Nat} {v : Value} {ms : List Pk} {W W' : World} (h : Om w H1 D E v ms W) (lay : w.heap.size < H1 ∧ H1 < D ∧ D < E) {p : Nat → Prop} (ho : Only p W W') (hp : ∀ k, p k → H1 < k ∧ k ≠ D ∧ k < E) : Om w H1 D E v ms W' := by
  have hn : ∀ k, k ≤ H1 → ¬ p k := fun k hk q => by have := hp k q; omega
  exact ⟨h.bl.trans (ho.below h.bl.size (fun k q => by have := hp k q; omega)), boxed_only h.r0 ho (hn _ (by omega)), boxed_only h.r1 ho (hn _ (by omega)),
    S_only h.R ho (fun k q => (hp k q).2.2), (ho.block D (by have := h.sz; omega) (fun q => (hp D q).2.1 rfl)).trans h.df, Nat.le_trans h.sz ho.size⟩
theorem only_putObj (W : World) (l : Nat) (o : Obj) : Only (fun k => k = l) W (W.putObj l o) :=
  ⟨rfl, rfl, rfl, by simp, fun k _ hk => World.putObj_heap_other hk⟩
theorem only_setCell (W : World) (b : Nat) (v : Value) : Only (fun k => k = b) W (W.setCell ⟨b, 0, none⟩ v) := (Only.refl (fun k => k = b) W).setCell (ad := ⟨b, 0, none⟩) rfl v
end Go.Proofs.YtpihkmpcnkhnfaaDoor.Hsi
namespace Go.Proofs.YtpihkmpcnkhnfaaDoor.Hsi
open Go Go.RowKit Go.Shelf Go.Proofs.YtpihkmpcnkhnfaaDoorW.PrintWords Go.Proofs.YtpihkmpcnkhnfaaDoorW.PrintLast Go.Proofs.YtpihkmpcnkhnfaaDoorW.PrintMore
attribute [local go_sem] Oper.semAt_some
open Go.Proofs.YtpihkmpcnkhnfaaDoor.Onl (Only)
open Go.Proofs.YtpihkmpcnkhnfaaDoor.Hr (hread Flds)
open Go.Proofs.YtpihkmpcnkhnfaaDoor.QHc (Bt)
open Go.Proofs.YtpihkmpcnkhnfaaDoor.HsP (pks hread_fin hread_err)
open Go.Proofs.YtpihkmpcnkhnfaaDoor.Rng
set_option linter.unusedVariables false
set_option linter.unusedSimpArgs false
theorem pks_len : ∀ (f : Nat) (b : List Int), (pks f b).1.length ≤ f := by
  intro f
  induction f with
  | zero => intro b; simp [pks]
  | succ f ih =>
    intro b
    rw [pks]
    split
    · simp
    · split
      · simp
      · rename_i fl p fin _
        have := ih (b.drop fin.toNat)
        simp; omega
theorem maker_calls (w : World) (A : Option Addr) (n c : Nat) :
    Calls Tryd.prog 13 #[.slice A n c] w fun e w' => e = .returned (.func (.func 25) #[] #[.pointer (some ⟨w.heap.size, 0, none⟩)]) ∧ w' = w.alloc (.cells #[.slice A n c] 22) := by
  have hmf : ∀ (fn : Fn) (first cap : Array Value) (w : World), (Instr.makeFunc fn first cap).run Tryd.prog w = .ok (.func fn first cap) w := fun _ _ _ _ => rfl
  go_enter Tryd.func13, Tryd.ntmps13
  go_wp2
  go_ret
  exact ⟨rfl, rfl⟩
end Go.Proofs.YtpihkmpcnkhnfaaDoor.Hsi
namespace Go.Proofs.YtpihkmpcnkhnfaaDoor.Hsi
open Go Go.RowKit Go.Shelf Go.Proofs.YtpihkmpcnkhnfaaDoorW.PrintWords Go.Proofs.YtpihkmpcnkhnfaaDoorW.PrintLast Go.Proofs.YtpihkmpcnkhnfaaDoorW.PrintMore
attribute [local go_sem] Oper.semAt_some
open Go.Proofs.YtpihkmpcnkhnfaaDoor.Onl (Only)
open Go.Proofs.YtpihkmpcnkhnfaaDoor.Hr (hread Flds)
open Go.Proofs.YtpihkmpcnkhnfaaDoor.QHc (Bt)
open Go.Proofs.YtpihkmpcnkhnfaaDoor.HsP (pks hread_fin hread_err)
open Go.Proofs.YtpihkmpcnkhnfaaDoor.Rng
set_option linter.unusedVariables false
set_option linter.unusedSimpArgs false
theorem Om.grown {w : World} {H1 D E : Nat} {v v1 : Value} {ms : List Pk} {m : Pk} {W w1 : World} (h : Om w H1 D E v ms W) (lay : w.heap.size < H1 ∧ H1 < D ∧ D < E) (hR : KS w1 E (fun _ => True) v1 (ms ++ [m])) (hg : W.grownBy w1 v.ownBlock) :
    Boxed w1 w.heap.size 23 v ∧ Om w H1 D E v1 (ms ++ [m]) (w1.setCell ⟨w.heap.size, 0, none⟩ v1) ∧ ∀ k, k < E → k ≠ w.heap.size → (w1.setCell ⟨w.heap.size, 0, none⟩ v1).heap[k]? = W.heap[k]? := by
  have hne : ∀ k, k < E → some k ≠ v.ownBlock := fun k hk e => by have := Kd.S_base h.R k e.symm; omega
  have ho : Only (fun k => E ≤ k) W w1 := (Only.refl _ W).grown hg (fun k e => .inl (Kd.S_base h.R k e))
  have hb1 : Boxed w1 w.heap.size 23 v := boxed_only h.r0 ho (by omega)
  have hs := only_setCell w1 w.heap.size v1
  have hn : ∀ k, k < E → k ≠ w.heap.size → (w1.setCell ⟨w.heap.size, 0, none⟩ v1).heap[k]? = W.heap[k]? := fun k hk hk2 =>
    (hs.block k (by have := ho.size; have := h.sz; omega) hk2).trans (ho.block k (by have := h.sz; omega) (by omega))
  refine ⟨hb1, ⟨h.bl.trans ((ho.below h.bl.size (fun k q => by omega)).setCell (by show w.heap.size ≤ w.heap.size; omega) _), hb1.set v1, ?_, S_only hR hs (fun k q => by omega), ?_, Nat.le_trans h.sz (Nat.le_trans ho.size hs.size)⟩, hn⟩
  · exact (hn _ (by omega) (by omega)).trans h.r1
  · exact (hn _ (by omega) (by omega)).trans h.df
set_option maxHeartbeats 4000000 in
set_option maxRecDepth 100000 in
theorem split_calls (w : World) (A : Option Addr) (c : Nat) (b : List Int) (hC : Kd.C (Kd.int .u8) w A b.length b) (hc : b.length ≤ c) (hl : b.length ≤ 100000) (hB : Bt b) :
    Calls Tryd.prog 5 #[.slice A b.length c] w fun e w' => Below w.heap.size w w' ∧ ∃ v, e = .returned (.tuple #[v, .int .i64 (pks (b.length + 1) b).2]) ∧ KS w' w.heap.size (fun _ => True) v (pks (b.length + 1) b).1 := by
  refine (callsIn_wide (n := 3)).1 ?_
  refine callsIn_of_wp_marks Tryd.func5 rfl trivial ?_ rfl
  simp only [Tryd.ntmps5, List.size_toArray, List.length_cons, List.length_nil, Nat.reduceAdd, Nat.reduceSub, Array.replicate_succ, Array.replicate_zero, List.push_toArray, List.append_toArray, List.nil_append, List.cons_append]
  gi_wp2_with (first
    | (refine ⟨trivial, ?_⟩; gi_at_call 13; refine (callsIn_wide.2 (maker_calls _ _ _ _)).mono ?_; rintro e_ w1 ⟨rfl, rfl⟩)
    | (gi_at_call 13; refine (callsIn_wide.2 (maker_calls _ _ _ _)).mono ?_; rintro e_ w1 ⟨rfl, rfl⟩))
  refine open_range rfl (by omega) trivial (gf := 25) (lb := #[.pointer (some ⟨w.heap.size + 1 + 1, 0, none⟩)]) rfl (enters_of Tryd.func25 (by kernel_rfl) rfl) ?_
  intro fn rec W1 _ hrec hW1
  have HREC := Aside0.mk hrec
  clear hrec
  simp only [World.size_alloc, Nat.reduceSub, List.append_toArray, List.cons_append, List.nil_append] at hW1 HREC ⊢
  obtain ⟨H1, e1⟩ : ∃ H1, w.heap.size + 1 = H1 := ⟨_, rfl⟩
  rw [e1] at HREC ⊢
  obtain ⟨Bn, e3⟩ : ∃ Bn, H1 + 1 = Bn := ⟨_, rfl⟩
  rw [e3] at HREC ⊢
  obtain ⟨D, e4⟩ : ∃ D, Bn + 1 = D := ⟨_, rfl⟩
  rw [e4]
  obtain ⟨L, e5⟩ : ∃ L, D + 1 = L := ⟨_, rfl⟩
  rw [e5]
  obtain ⟨E, e6⟩ : ∃ E, L + 1 = E := ⟨_, rfl⟩
  have lay : w.heap.size < H1 ∧ H1 < D ∧ D < E := by omega
  have hsz : W1.heap.size = E := by rw [hW1]; simp only [World.size_alloc]; omega
  have f0 : Boxed W1 w.heap.size 23 (.slice none 0 0) := by
    rw [hW1]
    exact ((((Boxed.new w 23 (.slice none 0 0)).alloc _).alloc _).alloc _).alloc _
  have f1 : Boxed W1 H1 24 (.int .i64 0) := by
    have h := Boxed.new (w.alloc (.cells #[.slice none 0 0] 23)) 24 (.int .i64 0)
    rw [World.size_alloc, e1] at h
    rw [hW1]
    exact ((h.alloc _).alloc _).alloc _
  have f3 : Boxed W1 Bn 22 (.slice A b.length c) := by
    have h := Boxed.new ((w.alloc (.cells #[.slice none 0 0] 23)).alloc (.cells #[.int .i64 0] 24)) 22 (.slice A b.length c)
    rw [World.size_alloc, World.size_alloc, e1, e3] at h
    rw [hW1]
    exact (h.alloc _).alloc _
  have f4 : W1.heap[D]? = some (.deferred (some [])) := by
    have h := World.alloc_heap_new (((w.alloc (.cells #[.slice none 0 0] 23)).alloc (.cells #[.int .i64 0] 24)).alloc (.cells #[.slice A b.length c] 22)) (.deferred (some []))
    rw [World.size_alloc, World.size_alloc, World.size_alloc, e1, e3, e4] at h
    rw [hW1]
    exact (Below.heap_alloc _ _ _ (by simp only [World.size_alloc]; omega)).trans h
  have f5 : W1.heap[L]? = some (.loop (rec .ready none)) := by
    have h := World.alloc_heap_new ((((w.alloc (.cells #[.slice none 0 0] 23)).alloc (.cells #[.int .i64 0] 24)).alloc (.cells #[.slice A b.length c] 22)).alloc (.deferred (some []))) (.loop (rec .ready none))
    rw [World.size_alloc, World.size_alloc, World.size_alloc, World.size_alloc, e1, e3, e4, e5] at h
    rw [hW1]
    exact h
  have fb : Below w.heap.size w W1 := by
    rw [hW1]
    exact below_alloc (below_alloc (below_alloc (below_alloc (below_alloc (Below.refl _ _) _) _) _) _) _
  clear hW1
  have LL : Bn < L ∧ H1 < Bn ∧ Bn < D ∧ L < E ∧ D < L := by omega
  have LY := Aside0.mk lay
  have LX := Aside0.mk LL
  have OM0 := Aside0.mk (show Om w H1 D E (.slice none 0 0) [] W1 from ⟨fb, f0, f1, Kd.S_nil _ _ _ _ _, f4, by omega⟩)
  have F5 := Aside0.mk f5
  have F3 := Aside0.mk f3
  have HC := Aside0.mk hC
  have HB := Aside0.mk hB
  have HL := Aside0.mk hl
  have hBn : w.heap.size ≤ Bn := by omega
  clear f0 f1 f3 f4 f5 fb hsz e1 e3 e4 e5 e6 lay LL hC hB hl
  refine (each_calls L Bn w b HL.out HB.out (fun ms W => ∃ v, Om w H1 D E v ms W ∧ W.heap[L]? = some (.loop (rec .ready none)))
    (fun ms e W => ∃ v, Below w.heap.size w W ∧ Boxed W w.heap.size 23 v ∧ Boxed W H1 24 (.int .i64 e) ∧ KS W E (fun _ => True) v ms ∧ W.heap[L]? = some (.loop (rec .done (some .ret))) ∧ W.heap[D]? = some (.deferred (some [])))
    ?jbb ?jss ?j00 hBn ?nnn ?ggg W1 A c F3.out HC.out hc ⟨_, OM0.out, F5.out⟩).mono ?_
  case jbb =>
    rintro ms W W' ⟨v, h, hr⟩ hb
    exact ⟨v, h.only LY.out (Only.of_below hb : Only (fun _ => False) W W') (fun _ q => q.elim), (hb.block L (Array.getElem?_eq_some_iff.1 hr).1).trans hr⟩
  case jss =>
    rintro ms W u ⟨v, h, hr⟩
    have hL := LX.out
    exact ⟨v, h.only LY.out (only_setCell W Bn u) (fun k q => by omega), ((only_setCell W Bn u).block L (Array.getElem?_eq_some_iff.1 hr).1 (by omega)).trans hr⟩
  case j00 =>
    rintro ms W ⟨v, h, hr⟩
    exact h.bl
  case nnn =>
    rintro ms W e he ⟨v, hO, hr⟩
    have hL := LX.out
    obtain ⟨A9, c9, e9⟩ := Kd.R_slice (Kd.S_R hO.R)
    obtain ⟨n9, hn9⟩ : ∃ n9, ms.length = n9 := ⟨_, rfl⟩
    rw [hn9] at e9
    clear hn9
    subst e9
    refine ⟨fn, _, _, _, HREC.out.yield hr rfl, roundIn_of_wpIn trivial ?_⟩
    obtain ⟨WA, hWA⟩ : ∃ WA, W.alloc (.cells #[.int .i64 0, .int .i64 0, .slice none 0 0, .slice none 0 0, .slice none 0 0, .int .i64 0, .int .i64 0, .int .i64 0, .slice none 0 0, .slice none 0 0] 35) = WA := ⟨_, rfl⟩
    have hoA := (Only.refl (fun _ => False) W).alloc (.cells #[.int .i64 0, .int .i64 0, .slice none 0 0, .slice none 0 0, .slice none 0 0, .int .i64 0, .int .i64 0, .int .i64 0, .slice none 0 0, .slice none 0 0] 35)
    rw [hWA] at hoA
    have hOA := hO.only LY.out hoA (fun _ q => q.elim)
    have hrA : WA.heap[L]? = some (.loop (rec .ready none)) := (hoA.block L (Array.getElem?_eq_some_iff.1 hr).1 (fun q => q)).trans hr
    obtain ⟨W2, hW2⟩ : ∃ W2, WA.putObj L (.loop (rec .busy none)) = W2 := ⟨_, rfl⟩
    have ho2 := only_putObj WA L (.loop (rec .busy none))
    rw [hW2] at ho2
    have hO2 := hOA.only LY.out ho2 (fun k q => by omega)
    have HO2 := Aside0.mk hO2
    have HR2 := Aside0.mk (show W2.heap[L]? = some (.loop (rec .busy none)) by rw [← hW2]; exact World.putObj_heap_same (Array.getElem?_eq_some_iff.1 hrA).1)
    have HRA := Aside0.mk hrA
    have HW2 := Aside0.mk hW2
    have HWA := Aside0.mk hWA
    have q0 : (e != 0) = true := by simpa using he
    have c0 := hO2.r0.cell
    have g0 := hO2.r0.frozen
    have c1 : (W2.setCell ⟨w.heap.size, 0, none⟩ (.slice A9 n9 c9)).cell? ⟨H1, 0, none⟩ = some (.int .i64 0) := (World.cell?_setCell_other _ _ _ _ (fun e => by have := LY.out; injection e with e; omega)).trans hO2.r1.cell
    have g1 : (W2.setCell ⟨w.heap.size, 0, none⟩ (.slice A9 n9 c9)).frozen? ⟨H1, 0, none⟩ = false := by rw [World.frozen?_setCell]; exact hO2.r1.frozen
    clear hL ho2 hO2 hOA hoA hrA hO hr hW2 hWA he
    simp only [List.zip_toArray, List.zip_cons_cons, List.zip_nil_right, List.foldl_toArray, List.foldl_cons, List.foldl_nil, List.setIfInBounds_toArray, List.set_cons_succ, List.set_cons_zero]
    gi_wp2
    try simp only [HWA.out]
    refine ⟨_, HREC.out.begin_ HRA.out, ?_⟩
    rw [HW2.out]
    gi_wp2
    have hL := LX.out
    have hY := LY.out
    have s1 := only_setCell W2 w.heap.size (.slice A9 n9 c9)
    have s2 := only_setCell (W2.setCell ⟨w.heap.size, 0, none⟩ (.slice A9 n9 c9)) H1 (.int .i64 e)
    have hs : ∀ k, k < E → k ≠ w.heap.size → k ≠ H1 → ((W2.setCell ⟨w.heap.size, 0, none⟩ (.slice A9 n9 c9)).setCell ⟨H1, 0, none⟩ (.int .i64 e)).heap[k]? = W2.heap[k]? := fun k hk a b =>
      (s2.block k (by have := s1.size; have := HO2.out.sz; omega) b).trans (s1.block k (by have := HO2.out.sz; omega) a)
    have hr3 := (hs L hL.2.2.2.1 (by omega) (by omega)).trans HR2.out
    have s3 := only_putObj ((W2.setCell ⟨w.heap.size, 0, none⟩ (.slice A9 n9 c9)).setCell ⟨H1, 0, none⟩ (.int .i64 e)) L (.loop (rec .done (some .ret)))
    refine ⟨_, _, HREC.out.end_ (some .ret) hr3, rfl, .slice A9 n9 c9, ?_, ?_, ?_, ?_, World.putObj_heap_same (Array.getElem?_eq_some_iff.1 hr3).1, ?_⟩
    · exact (((HO2.out.bl.setCell (p := ⟨w.heap.size, 0, none⟩) (Nat.le_refl _) _).setCell (p := ⟨H1, 0, none⟩) (by show w.heap.size ≤ H1; omega) _)).trans (s3.below (Nat.le_trans HO2.out.bl.size (Nat.le_trans s1.size s2.size)) (fun k q => by omega))
    · exact boxed_only (boxed_only (HO2.out.r0.set _) s2 (by omega)) s3 (by omega)
    · exact boxed_only ((boxed_only HO2.out.r1 s1 (by omega)).set _) s3 (by omega)
    · exact S_only (S_only (S_only HO2.out.R s1 (fun k q => by omega)) s2 (fun k q => by omega)) s3 (fun k q => by omega)
    · exact (World.putObj_heap_other (by omega)).trans ((hs D (by omega) (by omega) (by omega)).trans HO2.out.df)
  case ggg =>
    rintro ms Wc W ⟨kd, ver, tO, fr, tk, ph, nm, wd⟩ hd bd v2 v3 v4 vh vb hms ⟨v, hO, hr⟩ hb hrows
    have hL := LX.out
    have g2 := hrows v2 tO (.inl ⟨rfl, rfl⟩)
    have g3 := hrows v3 fr (.inr (.inl ⟨rfl, rfl⟩))
    have g4 := hrows v4 tk (.inr (.inr (.inl ⟨rfl, rfl⟩)))
    have gh := hrows vh hd (.inr (.inr (.inr (.inl ⟨rfl, rfl⟩))))
    have gb := hrows vb bd (.inr (.inr (.inr (.inr ⟨rfl, rfl⟩))))
    clear hrows
    obtain ⟨A2, c2, q2⟩ := Kd.R_slice g2
    obtain ⟨n2, hn2⟩ : ∃ n, tO.length = n := ⟨_, rfl⟩
    rw [hn2] at q2
    clear hn2
    subst q2
    obtain ⟨A3, c3, q3⟩ := Kd.R_slice g3
    obtain ⟨n3, hn3⟩ : ∃ n, fr.length = n := ⟨_, rfl⟩
    rw [hn3] at q3
    clear hn3
    subst q3
    obtain ⟨A4, c4, q4⟩ := Kd.R_slice g4
    obtain ⟨n4, hn4⟩ : ∃ n, tk.length = n := ⟨_, rfl⟩
    rw [hn4] at q4
    clear hn4
    subst q4
    obtain ⟨Ah, ch, qh⟩ := Kd.R_slice gh
    obtain ⟨nh, hnh⟩ : ∃ n, hd.length = n := ⟨_, rfl⟩
    rw [hnh] at qh
    clear hnh
    subst qh
    obtain ⟨Ab, cb, qb⟩ := Kd.R_slice gb
    obtain ⟨nb, hnb⟩ : ∃ n, bd.length = n := ⟨_, rfl⟩
    rw [hnb] at qb
    clear hnb
    subst qb
    have hlt : L < Wc.heap.size := (Array.getElem?_eq_some_iff.1 hr).1
    have hr1 := (hb.block L hlt).trans hr
    have hO1 := hO.only LY.out (Only.of_below hb : Only (fun _ => False) Wc W) (fun _ q => q.elim)
    have hvb : ∀ k, v.ownBlock = some k → k < Wc.heap.size := Kd.S_lt hO.R
    have hEc : E ≤ Wc.heap.size := hO.sz
    have hWW := hb.size
    refine ⟨fn, _, _, _, HREC.out.yield hr1 rfl, roundIn_of_wpIn trivial ?_⟩
    obtain ⟨WA, hWA⟩ : ∃ WA, W.alloc (.cells #[.int .i64 kd, .int .i64 ver, .slice A2 n2 c2, .slice A3 n3 c3, .slice A4 n4 c4, .int .i64 ph, .int .i64 nm, .int .i64 wd, .slice Ah nh ch, .slice Ab nb cb] 35) = WA := ⟨_, rfl⟩
    have hoA := (Only.refl (fun _ => False) W).alloc (.cells #[.int .i64 kd, .int .i64 ver, .slice A2 n2 c2, .slice A3 n3 c3, .slice A4 n4 c4, .int .i64 ph, .int .i64 nm, .int .i64 wd, .slice Ah nh ch, .slice Ab nb cb] 35)
    have hoB := (Only.refl (fun j => j = L) W).alloc (.cells #[.int .i64 kd, .int .i64 ver, .slice A2 n2 c2, .slice A3 n3 c3, .slice A4 n4 c4, .int .i64 ph, .int .i64 nm, .int .i64 wd, .slice Ah nh ch, .slice Ab nb cb] 35)
    have hxA := World.alloc_heap_new W (.cells #[.int .i64 kd, .int .i64 ver, .slice A2 n2 c2, .slice A3 n3 c3, .slice A4 n4 c4, .int .i64 ph, .int .i64 nm, .int .i64 wd, .slice Ah nh ch, .slice Ab nb cb] 35)
    rw [hWA] at hoA hoB hxA
    have hOA := hO1.only LY.out hoA (fun _ q => q.elim)
    have hrA : WA.heap[L]? = some (.loop (rec .ready none)) := (hoA.block L (by omega) (fun q => q)).trans hr1
    obtain ⟨W2, hW2⟩ : ∃ W2, WA.putObj L (.loop (rec .busy none)) = W2 := ⟨_, rfl⟩
    have ho2 := only_putObj WA L (.loop (rec .busy none))
    rw [hW2] at ho2
    have hO2 := hOA.only LY.out ho2 (fun k q => by omega)
    have HO2 := Aside0.mk hO2
    have HR2 := Aside0.mk (show W2.heap[L]? = some (.loop (rec .busy none)) by rw [← hW2]; exact World.putObj_heap_same (Array.getElem?_eq_some_iff.1 hrA).1)
    have hbx : W2.heap[W.heap.size]? = some (.cells #[.int .i64 kd, .int .i64 ver, .slice A2 n2 c2, .slice A3 n3 c3, .slice A4 n4 c4, .int .i64 ph, .int .i64 nm, .int .i64 wd, .slice Ah nh ch, .slice Ab nb cb] 35) := (ho2.block W.heap.size (Array.getElem?_eq_some_iff.1 hxA).1 (by omega)).trans hxA
    have mv : ∀ (u : Value) (x : List Int), Kd.R (Kd.int .u8) 5 W Wc.heap.size (fun _ => True) u x → Kd.R (Kd.int .u8) 5 W2 E (fun j => Wc.heap.size ≤ j) u x := fun u x h =>
      Kd.R_lower (Kd.R_mono (Kd.R_bound (R_only (R_only h hoA (fun _ q => q.elim)) ho2 (fun k q => by omega))) (fun j hj => hj.2.1)) hEc
    have HM := Aside0.mk (kP_mkM W2 E (fun j => Wc.heap.size ≤ j) ((kd, ver, tO, fr, tk, ph, nm, wd), hd, bd) (mv _ _ g2) (mv _ _ g3) (mv _ _ g4) (mv _ _ gh) (mv _ _ gb))
    have HSO := Aside0.mk (S_old hO.R (((Only.of_below hb : Only (fun j => j = L) Wc W).trans hoB).trans ho2) (fun j q => by omega))
    have HBn := Aside0.mk (show W2.heap[Bn]? = W.heap[Bn]? from (ho2.block Bn (by have := hoA.size; omega) (by omega)).trans (hoA.block Bn (by omega) (fun q => q)))
    have HRA := Aside0.mk hrA
    have HW2 := Aside0.mk hW2
    have HWA := Aside0.mk hWA
    have HVB := Aside0.mk hvb
    have HMS := Aside0.mk hms
    have HEC := Aside0.mk hEc
    have x0 : W2.cell? ⟨W.heap.size, 0, none⟩ = some (.int .i64 kd) := by simp [World.cell?, hbx]
    have x1 : W2.cell? ⟨W.heap.size, 1, none⟩ = some (.int .i64 ver) := by simp [World.cell?, hbx]
    have x2 : W2.cell? ⟨W.heap.size, 2, none⟩ = some (.slice A2 n2 c2) := by simp [World.cell?, hbx]
    have x3 : W2.cell? ⟨W.heap.size, 3, none⟩ = some (.slice A3 n3 c3) := by simp [World.cell?, hbx]
    have x4 : W2.cell? ⟨W.heap.size, 4, none⟩ = some (.slice A4 n4 c4) := by simp [World.cell?, hbx]
    have x5 : W2.cell? ⟨W.heap.size, 5, none⟩ = some (.int .i64 ph) := by simp [World.cell?, hbx]
    have x6 : W2.cell? ⟨W.heap.size, 6, none⟩ = some (.int .i64 nm) := by simp [World.cell?, hbx]
    have x7 : W2.cell? ⟨W.heap.size, 7, none⟩ = some (.int .i64 wd) := by simp [World.cell?, hbx]
    have x8 : W2.cell? ⟨W.heap.size, 8, none⟩ = some (.slice Ah nh ch) := by simp [World.cell?, hbx]
    have x9 : W2.cell? ⟨W.heap.size, 9, none⟩ = some (.slice Ab nb cb) := by simp [World.cell?, hbx]
    have c0 := hO2.r0.cell
    clear hL ho2 hO2 hOA hoA hoB hxA hbx hrA hr1 hO1 hO hr hb hW2 hWA hvb hms hlt hEc hWW mv g2 g3 g4 gh gb
    simp only [List.zip_toArray, List.zip_cons_cons, List.zip_nil_right, List.foldl_toArray, List.foldl_cons, List.foldl_nil, List.setIfInBounds_toArray, List.set_cons_succ, List.set_cons_zero]
    gi_wp2
    try simp only [HWA.out]
    refine ⟨_, HREC.out.begin_ HRA.out, ?_⟩
    rw [HW2.out]
    clear HWA HW2
    gi_wp2_with ((gi_at_builtin; refine S_append_in kP (W := W2) E rfl (.tmp 14) (.tmp 16) 23 35 _ 160 rfl Tryd.underlying23 info82 rfl (by decide) (by omega) v ms ((kd, ver, tO, fr, tk, ph, nm, wd), hd, bd) _ (fun _ => True) (fun j => Wc.heap.size ≤ j) rfl rfl HM.out ?aQ (fun _ _ => trivial) HSO.out ?aS ?aL ?_; (case aQ => exact (fun j hj => ⟨trivial, fun e => by have := HVB.out j e.symm; omega⟩)); (case aS => exact HO2.out.sz); (case aL => have := HMS.out; have := HL.out; omega); intro v1 w1 hR1 hg1; obtain ⟨A9, c9, e9⟩ := Kd.R_slice (Kd.S_R hR1); obtain ⟨n9, hn9⟩ : ∃ n9, (ms ++ [((kd, ver, tO, fr, tk, ph, nm, wd), hd, bd)]).length = n9 := ⟨_, rfl⟩; rw [hn9] at e9; clear hn9; subst e9; have HG := Aside0.mk (HO2.out.grown LY.out hR1 hg1); have c2_ := HG.out.1.cell; have f2_ := HG.out.1.frozen; clear hR1 hg1 c0))
    have HE3 := HG.out.2.2
    have ho3 := HG.out.2.1
    have hr3 := (HE3 L LX.out.2.2.2.1 (by have := LX.out; have := LY.out; omega)).trans HR2.out
    have hb3 := (HE3 Bn (by have := LX.out; omega) (by have := LX.out; have := LY.out; omega)).trans HBn.out
    refine ⟨_, _, HREC.out.end_ none hr3, rfl, ⟨⟨_, ho3.only LY.out (only_putObj _ _ _) (fun k q => by have := LX.out; omega)⟩, World.putObj_heap_same (Array.getElem?_eq_some_iff.1 hr3).1⟩, ?_⟩
    exact (World.putObj_heap_other (by have := LX.out; omega)).trans hb3
  rintro e W2 ⟨⟨v, rfl⟩, (⟨hz, v2, hO, hr⟩ | ⟨hnz, v2, hb, h0, h1, hR, hr, hd⟩)⟩
  · refine ⟨none, _, HREC.out.endLoop hr (by simp), ?_⟩
    have hL := LX.out
    have hO3 := hO.only LY.out (only_putObj W2 L (.loop (rec .exhausted none))) (fun k q => by omega)
    generalize W2.putObj L (.loop (rec .exhausted none)) = W3 at hO3
    clear hr hO
    obtain ⟨ms, hms⟩ : ∃ ms, (pks (b.length + 1) b).1 = ms := ⟨_, rfl⟩
    rw [hms] at hO3
    obtain ⟨A9, c9, e9⟩ := Kd.R_slice (Kd.S_R hO3.R)
    obtain ⟨n9, hn9⟩ : ∃ n9, ms.length = n9 := ⟨_, rfl⟩
    rw [hn9] at e9
    clear hn9
    subst e9
    have HMS := Aside0.mk hms
    have HO3 := Aside0.mk hO3
    have HZ := Aside0.mk hz
    have c0 := hO3.r0.cell
    have g0 := hO3.r0.frozen
    have c1 : (W3.setCell ⟨w.heap.size, 0, none⟩ (.slice A9 n9 c9)).cell? ⟨H1, 0, none⟩ = some (.int .i64 0) := (World.cell?_setCell_other _ _ _ _ (fun e => by have := LY.out; injection e with e; omega)).trans hO3.r1.cell
    have g1 : (W3.setCell ⟨w.heap.size, 0, none⟩ (.slice A9 n9 c9)).frozen? ⟨H1, 0, none⟩ = false := by rw [World.frozen?_setCell]; exact hO3.r1.frozen
    clear hL hO3 hms hz
    gi_wp2
    have hL := LX.out
    have hY := LY.out
    have s1 := only_setCell W3 w.heap.size (.slice A9 n9 c9)
    have s2 := only_setCell (W3.setCell ⟨w.heap.size, 0, none⟩ (.slice A9 n9 c9)) H1 (.int .i64 0)
    have hE := HO3.out.sz
    have x0 := boxed_only (HO3.out.r0.set (.slice A9 n9 c9)) s2 (by omega)
    have x1 := (boxed_only HO3.out.r1 s1 (by omega)).set (.int .i64 0)
    have hR4 := S_only (S_only HO3.out.R s1 (fun k q => by omega)) s2 (fun k q => by omega)
    have hb4 := (HO3.out.bl.setCell (p := ⟨w.heap.size, 0, none⟩) (Nat.le_refl _) (.slice A9 n9 c9)).setCell (p := ⟨H1, 0, none⟩) (by show w.heap.size ≤ H1; omega) (.int .i64 0)
    have hd4 : ((W3.setCell ⟨w.heap.size, 0, none⟩ (.slice A9 n9 c9)).setCell ⟨H1, 0, none⟩ (.int .i64 0)).heap[D]? = some (.deferred (some [])) :=
      (s2.block D (by have := s1.size; omega) (by omega)).trans ((s1.block D (by omega) (by omega)).trans HO3.out.df)
    have hz : E ≤ ((W3.setCell ⟨w.heap.size, 0, none⟩ (.slice A9 n9 c9)).setCell ⟨H1, 0, none⟩ (.int .i64 0)).heap.size := by have := s1.size; have := s2.size; omega
    clear c0 c1 g0 g1 s1 s2
    generalize (W3.setCell ⟨w.heap.size, 0, none⟩ (.slice A9 n9 c9)).setCell ⟨H1, 0, none⟩ (.int .i64 0) = W4 at *
    have s5 := only_putObj W4 D (.deferred none)
    have y0 := (boxed_only x0 s5 (by omega)).cell
    have y1 := (boxed_only x1 s5 (by omega)).cell
    refine ⟨by simp, .inl ⟨D, _, rfl, run_takeDeferred hd4, .tuple #[.slice A9 n9 c9, .int .i64 0], ?_, ?_⟩⟩
    · clear x0 x1 hR4 hb4 hd4 hz hE s5 hL hY
      generalize W4.putObj D (.deferred none) = W5 at *
      simp [results, Tryd.results5, go_sem, y0, y1]
    · refine ⟨hb4.trans (s5.below hb4.size (fun k q => by omega)), _, by rw [HZ.out], ?_⟩
      rw [HMS.out]
      exact Kd.S_lower (S_only hR4 s5 (fun k q => by omega)) (by omega)
  · refine ⟨some .ret, _, HREC.out.endLoop hr (by simp), ?_⟩
    have hL := LX.out
    have hY := LY.out
    have s4 := only_putObj W2 L (.loop (rec .exhausted (some .ret)))
    have x0 := boxed_only h0 s4 (by omega)
    have x1 := boxed_only h1 s4 (by omega)
    have hR4 := S_only hR s4 (fun k q => by omega)
    have hd4 := (s4.block D (Array.getElem?_eq_some_iff.1 hd).1 (by omega)).trans hd
    have hb4 := hb.trans (s4.below hb.size (fun k q => by omega))
    clear hr h0 h1 hd hb s4 hR
    generalize W2.putObj L (.loop (rec .exhausted (some .ret))) = W4 at *
    have X0 := Aside0.mk x0
    have X1 := Aside0.mk x1
    have HD4 := Aside0.mk hd4
    have HB4 := Aside0.mk hb4
    have HR4 := Aside0.mk hR4
    clear x0 x1 hd4 hb4 hL hY hnz hR4
    gi_wp2
    have hL := LX.out
    have hY := LY.out
    have s5 := only_putObj W4 D (.deferred none)
    have y0 := (boxed_only X0.out s5 (by omega)).cell
    have y1 := (boxed_only X1.out s5 (by omega)).cell
    have hb4 := HB4.out
    refine ⟨by simp, .inl ⟨D, _, rfl, run_takeDeferred HD4.out, .tuple #[v2, .int .i64 (pks (b.length + 1) b).2], ?_, ?_⟩⟩
    · clear s5 hL hY hb4
      generalize W4.putObj D (.deferred none) = W5 at *
      simp [results, Tryd.results5, go_sem, y0, y1]
    · exact ⟨hb4.trans (s5.below hb4.size (fun k q => by omega)), _, rfl, Kd.S_lower (S_only HR4.out s5 (fun k q => by omega)) (by omega)⟩
end Go.Proofs.YtpihkmpcnkhnfaaDoor.Hsi
namespace Go.Proofs.YtpihkmpcnkhnfaaDoor.QHs
open Go Go.RowKit Go.Proofs.YtpihkmpcnkhnfaaDoorW.PrintWords Go.Proofs.YtpihkmpcnkhnfaaDoorW.PrintLast Go.Proofs.YtpihkmpcnkhnfaaDoorW.PrintMore Go.Proofs.YtpihkmpcnkhnfaaDoor.QHe Go.Proofs.YtpihkmpcnkhnfaaDoor.HeP Go.Proofs.YtpihkmpcnkhnfaaDoor.QHc
open Go.Proofs.YtpihkmpcnkhnfaaDoor.Gv (TB TB.below TB.alloc TB.drewN)
open Go.Proofs.YtpihkmpcnkhnfaaDoor.Hr (hread rdN rdB rdV rdC hS11 hS13 hS14 hS15 hS17 hS21 hLong hShort)
open Go.Proofs.YtpihkmpcnkhnfaaDoor.HsP (pks hread_fin hread_err)
open Go.Proofs.YtpihkmpcnkhnfaaDoor.Hsi (Pk KS split_calls pks_len)
attribute [local go_sem] max2_int min2_int max_two min_two max_three min_three max_four min_four
set_option linter.unusedVariables false
set_option linter.unusedSimpArgs false
theorem told_f (a0 a1 : Int) (l2 l3 l4 : List Int) (a5 a6 a7 : Int) (h2 : l2.length ≤ 2000) (h3 : l3.length ≤ 2000) (h4 : l4.length ≤ 2000) : shibbolethlaw05_told.f 3000 a0 a1 l2 l3 l4 a5 a6 a7 a0 a1 l2 l3 l4 a5 a6 a7 = some true := by
 unfold shibbolethlaw05_told.f
 rw [if_pos rfl, if_pos rfl, same_f _ (by omega) 3000 (by omega), same_f _ (by omega) 3000 (by omega), same_f _ (by omega) 3000 (by omega)]
 simp
theorem rdB_len {l : List Int} {p n q : Nat} {x : List Int} (h : rdB l p n = .ok (x, q)) : x.length ≤ l.length := by
 unfold rdB at h
 by_cases hn : p + n ≤ l.length
 ·rw [if_pos hn] at h
  injection h with h
  injection h with h _
  rw [← h]; simp; omega
 ·rw [if_neg hn] at h; cases h
theorem rdC_len {r : Except Int (Int × Nat)} {l : List Int} {m : Int} {q : Nat} {x : List Int} (h : rdC r l m = .ok (x, q)) : x.length ≤ l.length := by
 unfold rdC at h
 rcases r with e | ⟨n, q1⟩
 ·cases h
 ·change (if n ≤ m then rdB l q1 n.toNat else .error 4) = _ at h
  by_cases hn : n ≤ m
  ·rw [if_pos hn] at h; exact rdB_len h
  ·rw [if_neg hn] at h; cases h
theorem s17_len {l : List Int} {kd ver wd : Int} {tO fr tk : List Int} {p q : Nat} {fl : Hr.Flds} {fin : Int} (h : hS17 l kd ver tO fr tk wd p = .ok (fl, q, fin)) : fl.2.2.1 = tO ∧ fl.2.2.2.1 = fr ∧ fl.2.2.2.2.1 = tk := by
 unfold hS17 at h
 rcases hN : rdV l p with e | ⟨n, q1⟩
 ·rw [hN] at h; cases h
 ·rw [hN] at h
  change (if wd ≤ n then (if n ≤ (l.length : Int) - q1 then hS21 l kd ver tO fr tk wd n q1 else .error 2) else .error 3) = _ at h
  split at h
  ·split at h
   ·unfold hS21 at h
    rcases hM : rdN l q1 wd.toNat with e | ⟨nm, q2⟩
    ·rw [hM] at h; cases h
    ·rw [hM] at h
     injection h with h
     injection h with h _
     rw [← h]
     exact ⟨rfl, rfl, rfl⟩
   ·cases h
  ·cases h
theorem hread_len {l : List Int} {fl : Hr.Flds} {p : Nat} {fin : Int} (h : hread l = .ok (fl, p, fin)) : fl.2.2.1.length ≤ l.length ∧ fl.2.2.2.1.length ≤ l.length ∧ fl.2.2.2.2.1.length ≤ l.length := by
 unfold hread at h
 rcases hN : rdN l 0 1 with e | ⟨f, p1⟩
 ·rw [hN] at h; cases h
 rw [hN] at h
 change (if f < 192 then hShort l f p1 else hLong l f p1) = _ at h
 split at h
 ·unfold hShort at h
  split at h
  ·rcases hb : rdB l p1 8 with e | ⟨tO, p2⟩
   ·rw [hb] at h; cases h
   ·rw [hb] at h
    change (match rdN l p2 (f % 4 + 1).toNat with | .error e => _ | .ok (nm, p2) => _) = _ at h
    rcases hM : rdN l p2 (f % 4 + 1).toNat with e | ⟨nm, q2⟩
    ·rw [hM] at h; cases h
    ·rw [hM] at h
     injection h with h
     injection h with h _
     rw [← h]
     exact ⟨rdB_len hb, Nat.zero_le _, Nat.zero_le _⟩
  ·cases h
 ·unfold hLong at h
  split at h
  ·unfold hS11 at h
   rcases hb : rdN l p1 4 with e | ⟨ver, p2⟩
   ·rw [hb] at h; cases h
   ·rw [hb] at h
    change (if 0 < ver then hS13 l (f / 16 % 4) ver (f % 4 + 1) p2 else .error 3) = _ at h
    split at h
    ·unfold hS13 at h
     rcases h3 : rdC (rdN l p2 1) l ((20 : Nat) : Int) with e | ⟨tO, p3⟩
     ·rw [h3] at h; cases h
     ·rw [h3] at h
      change hS14 l (f / 16 % 4) ver tO (f % 4 + 1) p3 = _ at h
      unfold hS14 at h
      rcases h4 : rdC (rdN l p3 1) l ((20 : Nat) : Int) with e | ⟨fr, p4⟩
      ·rw [h4] at h; cases h
      ·rw [h4] at h
       change hS15 l (f / 16 % 4) ver tO fr (f % 4 + 1) p4 = _ at h
       unfold hS15 at h
       split at h
       ·rcases h5 : rdC (rdV l p4) l ((64 : Nat) : Int) with e | ⟨tk, p5⟩
        ·rw [h5] at h; cases h
        ·rw [h5] at h
         obtain ⟨e1, e2, e3⟩ := s17_len (show hS17 l (f / 16 % 4) ver tO fr tk (f % 4 + 1) p5 = _ from h)
         rw [e1, e2, e3]
         exact ⟨rdC_len h3, rdC_len h4, rdC_len h5⟩
       ·obtain ⟨e1, e2, e3⟩ := s17_len h
        rw [e1, e2, e3]
        exact ⟨rdC_len h3, rdC_len h4, Nat.zero_le _⟩
    ·cases h
  ·cases h
theorem pk_at {W : World} {base : Nat} {v : Value} {ms : List Pk} (hS : KS W base (fun _ => True) v ms) (k : Nat) (hk : k < ms.length) (x : Pk) (hx : ms[k]? = some x) :
  ∃ g c A2 c2 A3 c3 A4 c4 Ah ch Ab cb, v = .slice (some ⟨g, 0, none⟩) ms.length c ∧
   (∀ (j : Nat) (u : Value), [Value.int .i64 x.1.1, .int .i64 x.1.2.1, .slice A2 x.1.2.2.1.length c2, .slice A3 x.1.2.2.2.1.length c3, .slice A4 x.1.2.2.2.2.1.length c4, .int .i64 x.1.2.2.2.2.2.1, .int .i64 x.1.2.2.2.2.2.2.1, .int .i64 x.1.2.2.2.2.2.2.2, .slice Ah x.2.1.length ch, .slice Ab x.2.2.length cb][j]? = some u → W.cell? ⟨g, k * 10 + j, none⟩ = some u) ∧
   (x.1.2.2.1.length ≤ c2 ∧ (Kd.int .u8).C W A2 x.1.2.2.1.length x.1.2.2.1) ∧ (x.1.2.2.2.1.length ≤ c3 ∧ (Kd.int .u8).C W A3 x.1.2.2.2.1.length x.1.2.2.2.1) ∧ (x.1.2.2.2.2.1.length ≤ c4 ∧ (Kd.int .u8).C W A4 x.1.2.2.2.2.1.length x.1.2.2.2.2.1) ∧ (x.2.1.length ≤ ch ∧ (Kd.int .u8).C W Ah x.2.1.length x.2.1) ∧ (x.2.2.length ≤ cb ∧ (Kd.int .u8).C W Ab x.2.2.length x.2.2) := by
 have hR := Kd.S_R hS
 obtain ⟨A, c, e, hl, hC⟩ := Kd.R_reads hR
 obtain ⟨inner, ho⟩ := Kd.R_own hR
 obtain ⟨ad, cs, e1, hcl, hK, hat⟩ := Kd.C_get hC x (k : Int) (by omega) (by omega)
 subst e1
 have hg : ∃ g, ad = ⟨g, 0, none⟩ := by
  rcases ho.2 with ⟨h1, _⟩ | ⟨g, cap, cur, h1, _⟩
  ·rw [h1] at e; injection e with e; cases e
  ·rw [h1] at e; injection e with e; injection e with e; exact ⟨g, e.symm⟩
 obtain ⟨g, rfl⟩ := hg
 rw [Int.toNat_natCast] at hat
 have hz : ms.getD ((k : Int).toNat) x = x := by rw [Int.toNat_natCast, List.getD_eq_getElem?_getD, hx]; rfl
 rw [hz] at hK
 obtain ⟨_, _, rfl, rfl, _, _, rfl, rfl, _, _, rfl, ⟨A2, c2, rfl, h2, r2⟩, _, _, rfl, ⟨A3, c3, rfl, h3, r3⟩, _, _, rfl, ⟨A4, c4, rfl, h4, r4⟩, _, _, rfl, rfl, _, _, rfl, rfl, _, _, rfl, rfl, _, _, rfl, ⟨Ah, ch, rfl, hh, rh⟩, ⟨Ab, cb, rfl, hb, rb⟩⟩ := hK
 refine ⟨g, c, A2, c2, A3, c3, A4, c4, Ah, ch, Ab, cb, e, fun j u hj => ?_, ⟨h2, r2⟩, ⟨h3, r3⟩, ⟨h4, r4⟩, ⟨hh, rh⟩, ⟨hb, rb⟩⟩
 have := hat j u hj
 rw [Addr.add_lit, Nat.zero_add] at this
 exact this
theorem pks_nil (f : Nat) : pks f [] = ([], 0) := by cases f <;> simp [pks]
theorem pks_bad {f : Nat} {b : List Int} {e : Int} (h : b ≠ []) (hr : hread b = .error e) : pks (f + 1) b = ([], e) := by rw [pks, if_neg h, hr]
theorem pks_good {f : Nat} {b : List Int} {fl : Hr.Flds} {p : Nat} {fin : Int} (h : b ≠ []) (hr : hread b = .ok (fl, p, fin)) :
  pks (f + 1) b = ((fl, b.take p, (b.take fin.toNat).drop p) :: (pks f (b.drop fin.toNat)).1, (pks f (b.drop fin.toNat)).2) := by rw [pks, if_neg h, hr]
def shibbolethlaw05_HeaderSplits.f (l0 : List Int) : Option Bool := if Bt l0 then some true else none
set_option maxHeartbeats 4000000 in
set_option maxRecDepth 100000 in
theorem shibbolethlaw05_HeaderSplits.calls (A0 : Option Addr) (c0 : Nat) (l0 : List Int) (r : Bool) (w : World) (hr0 : Kd.C (Kd.int .u8) w A0 l0.length l0) (hc0 : l0.length ≤ c0) (ht : TB w) (h : shibbolethlaw05_HeaderSplits.f l0 = some r) :
  Calls Tryd.prog 3 #[.slice A0 l0.length c0] w fun e w' => e = .returned (.bool r) ∧ Below w.heap.size w w' := by
 unfold shibbolethlaw05_HeaderSplits.f at h
 by_cases hB : Bt l0
 rotate_left
 ·rw [if_neg hB] at h; cases h
 rw [if_pos hB] at h
 obtain rfl := Option.some.inj h
 clear h
 by_cases hg : (1500 : Int) < (l0.length : Int)
 ·clear hr0 hc0 ht hB
  go_enter Tryd.func3, Tryd.ntmps3
  go_wp2
  go_ret
  exact ⟨rfl, Below.refl _ _⟩
 have hl : l0.length ≤ 1500 := by omega
 have C0 := Aside0.mk hr0
 have L0 := Aside0.mk hc0
 have HT := Aside0.mk ht
 have HB := Aside0.mk hB
 have HL := Aside0.mk hl
 have AW := fun (W : World) (hb : Below w.heap.size w W) => shibbolethlaw05_awake.calls 3000 true W (TB.below HT.out hb) (awake_f 3000 (by omega))
 obtain ⟨ms, er, hpk⟩ : ∃ ms er, pks (l0.length + 1) l0 = (ms, er) := ⟨_, _, rfl⟩
 have HPK := Aside0.mk hpk
 have SP := fun (W : World) (A : Option Addr) (cc : Nat) (hC : Kd.C (Kd.int .u8) W A l0.length l0) (hc : l0.length ≤ cc) => split_calls W A cc l0 hC hc (by have := HL.out; omega) HB.out
 rw [hpk] at SP
 have HMS := Aside0.mk (show ms.length ≤ 1501 by have := pks_len (l0.length + 1) l0; rw [hpk] at this; have h2 : ms.length ≤ l0.length + 1 := this; omega)
 clear hr0 hc0 ht hB hl hpk
 go_enter Tryd.func3, Tryd.ntmps3
 go_upto_region 4 with (first | ((with_reducible refine gate_dst (N := 15) rfl ?_); refine Kd.R_lit (Kd.int .u8) w.heap.size 5 ?hg (N := 15) ?hd (xs := ([] : List Int)) (inner := []) (ok := fun _ => True) (okp := fun _ => True) ?hr ?hp (fun _ hk => hk) trivial (Below.refl _ _) (Nat.le_refl _) (by simp) ?_; (case hd => rfl); (case hg => rfl); (case hr => first | (go_simp; done) | (go_simp; rfl)); (case hp => exact (Reps.none _ _)); intro v6 w6 ho6 hb6 hg_ hnew_; clear hg_ hnew_; have O6 := Aside0.mk ho6; have B6 := Aside0.mk hb6; clear ho6 hb6) | ((with_reducible refine gate_builtin (b := .append) (xs := #[.tmp 15, .tmp 16]) rfl ?_); at_builtin; refine Kd.R_append_rows (Kd.int .u8) (w0 := w) w.heap.size rfl (.tmp 15) (.tmp 16) 22 5 (.int .u8 0) 1 rfl Tryd.underlying22 Go.Proofs.YtpihkmpcnkhnfaaDoor.Hr.info5 rfl (by decide) (by omega) v6 ([] : List Int) l0 _ _ _ (fun _ => True) (fun _ => False) rfl rfl ?aO ?aR (fun _ _ h => h) (fun _ h => h.elim) ?aF ?aB ?aS ?aL ?_; (case aR => exact Kd.C_below C0.out B6.out); (case aB => exact B6.out); (case aF => exact fun _ _ => trivial); (case aO => exact O6.out); (case aS => exact below_size B6.out); (case aL => have := HL.out; simp; omega); intro v7 w7 ho7 hb7 hg7 hat7; clear hg7 hat7; rw [List.nil_append] at ho7; obtain ⟨A7, c7, e7⟩ := Kd.R_slice ho7; subst e7; have O7 := Aside0.mk ho7; have B7 := Aside0.mk hb7; clear ho7 hb7) | (go_at_call 5; refine (SP _ _ _ (Kd.R_reads' O7.out).2.2 (Kd.R_reads' O7.out).2.1).mono ?_; rintro e8 w8 ⟨hb8, v8, rfl, hS8⟩; obtain ⟨A8, c8, e8⟩ := Kd.R_slice (Kd.S_R hS8); obtain ⟨n8, hn8⟩ : ∃ n8, ms.length = n8 := ⟨_, rfl⟩; rw [hn8] at e8; subst e8; have S8 := Aside0.mk hS8; have N8 := Aside0.mk hn8; have B8 := Aside0.mk (below_step B7.out hb8); clear hb8 hS8 hn8))
 clear SP
 go_wp2
 go_loopg [5, 6, 7, 8, 9, 10] l0.length (fun gg v5 v6 v7 v8 v9 v10 wr => ∃ (rest : List Int) (f : Nat) (A : Option Addr) (c m k : Nat), v5 = .int .i64 (k : Int) ∧ v6 = .slice A m c ∧ m ≤ gg ∧ Aside0 (rest.length = m) ∧ Aside0 (m < f) ∧ Aside0 (pks f rest = (ms.drop k, er)) ∧ Aside0 (k ≤ ms.length) ∧ Aside0 (Kd.C (Kd.int .u8) w A m rest) ∧ Aside0 (m ≤ c) ∧ Aside0 (Bt rest) ∧ Aside0 (m ≤ 1500) ∧ Aside0 (Below w8.heap.size w8 wr))
 case atStart => exact ⟨l0, l0.length + 1, A0, c0, l0.length, 0, rfl, rfl, Nat.le_refl _, ⟨rfl⟩, ⟨by omega⟩, ⟨by rw [HPK.out, List.drop_zero]⟩, ⟨Nat.zero_le _⟩, C0, L0, HB, HL, ⟨Below.refl _ _⟩⟩
 case round =>
  obtain ⟨rest, f, A, c, m, k, rfl, rfl, hg', RL, FL, PK, KL, CC, CL, RB, R15, BW⟩ := hrel
  by_cases he : m = 0
  ·have hres := List.eq_nil_of_length_eq_zero (RL.out.trans he)
   have hp := PK.out
   rw [hres, pks_nil] at hp
   have hms : n8 = k := by
    have h1 : ms.drop k = [] := (Prod.mk.inj hp).1.symm
    have h2 := List.drop_eq_nil_iff.1 h1
    have := KL.out; have := N8.out; omega
   have her : er = 0 := (Prod.mk.inj hp).2.symm
   clear hp hres
   subst he hms her
   clear hg'
   go_wp2_with (go_at_call 7; refine (AW _ (below_step B8.out BW.out)).mono ?_; rintro e13 w13 ⟨rfl, hb13⟩; have B13 := Aside0.mk (below_step (below_step B8.out BW.out) hb13); clear hb13)
   go_ret
   exact ⟨rfl, B13.out⟩
  ·have hpos : 0 < m := by omega
   have p0 : decide ((0 : Int) < (m : Int)) = true := decide_eq_true (by omega)
   have p1 : decide (0 < m) = true := decide_eq_true hpos
   have HM0 := Aside0.mk hpos
   have HG := Aside0.mk hg'
   have hne : rest ≠ [] := fun e => by rw [e] at RL; have := RL.out; simp at this; omega
   have HNE := Aside0.mk hne
   obtain ⟨f', rfl⟩ : ∃ f', f = f' + 1 := ⟨f - 1, by have := FL.out; omega⟩
   have RR := Aside0.mk (Ri.ref_read (w := wr) (A := A) (c := c) (l := rest) (by rw [RL.out]; exact Kd.C_below CC.out (below_step B8.out BW.out)) (by rw [RL.out]; exact CL.out) (by rw [RL.out]; have := R15.out; omega) RB.out)
   rw [RL.out] at RR
   clear he hpos hg' hne
   rcases hrr : hread rest with e | ⟨⟨kd, ver, tO, fr, tk, ph, nm, wd⟩, p, fin⟩
   ·rw [hrr] at RR
    have hp := PK.out
    rw [pks_bad HNE.out hrr] at hp
    have hms : n8 = k := by
     have h1 : ms.drop k = [] := (Prod.mk.inj hp).1.symm
     have h2 := List.drop_eq_nil_iff.1 h1
     have := KL.out; have := N8.out; omega
    have her : er = e := (Prod.mk.inj hp).2.symm
    have hnz := hread_err hrr
    have d3 : (e != 0) = true := by simpa using hnz
    clear hp hrr hnz
    subst hms her
    go_upto_region 8 with (go_at_call 6; refine RR.out.mono ?_; rintro e10 w10 hR; have hR2 : er ≠ 0 ∧ ∃ z2 z3 z4 : Value, e10 = .returned (.tuple #[.agg #[.int .i64 0, .int .i64 0, z2, z3, z4, .int .i64 0, .int .i64 0, .int .i64 0], .int .i64 0, .int .i64 0, .int .i64 er]) ∧ Ri.Row0 wr z2 ([] : List Int) ∧ Ri.Row0 wr z3 ([] : List Int) ∧ Ri.Row0 wr z4 ([] : List Int) ∧ Below wr.heap.size wr w10 := hR; obtain ⟨_, z2, z3, z4, rfl, ⟨Ap, cp, ep, hcp, hlp⟩, ⟨Aq, cq, eq, hcq, hlq⟩, ⟨Ar, cr, er_, hcr, hlr⟩, hb10⟩ := hR2; subst ep eq er_; have D10 := Aside0.mk hb10; clear hR hcp hlp hcq hlq hcr hlr hb10)
    have D11 := Aside0.mk (below_alloc D10.out (.cells #[.int .i64 0, .int .i64 0, .slice Ap 0 cp, .slice Aq 0 cq, .slice Ar 0 cr, .int .i64 0, .int .i64 0, .int .i64 0] 28))
    generalize w10.alloc (.cells #[.int .i64 0, .int .i64 0, .slice Ap 0 cp, .slice Aq 0 cq, .slice Ar 0 cr, .int .i64 0, .int .i64 0, .int .i64 0] 28) = w11 at D11 ⊢
    have B11 := Aside0.mk (below_step (below_step B8.out BW.out) D11.out)
    go_wp2_with (go_at_call 7; refine (AW _ B11.out).mono ?_; rintro e13 w13 ⟨rfl, hb13⟩; have B13 := Aside0.mk (below_step B11.out hb13); clear hb13)
    go_ret
    exact ⟨rfl, B13.out⟩
   ·rw [hrr] at RR
    have hp := PK.out
    rw [pks_good HNE.out hrr] at hp
    obtain ⟨hp1, hp2, hp3⟩ := hread_fin RB.out hrr
    obtain ⟨F, rfl⟩ := Int.eq_ofNat_of_zero_le (show 0 ≤ fin by omega)
    rw [RL.out] at hp3
    simp only [Int.toNat_natCast] at hp
    have h1 := (Prod.mk.inj hp).1
    have h2 := (Prod.mk.inj hp).2
    have hk : k < ms.length := by
     rcases Nat.lt_or_ge k ms.length with h | h
     ·exact h
     ·rw [List.drop_eq_nil_of_le h] at h1; cases h1
    have hx : ms[k]? = some (((kd, ver, tO, fr, tk, ph, nm, wd), rest.take p, (rest.take F).drop p) : Pk) := by
     have : (ms.drop k)[0]? = ms[k]? := by rw [List.getElem?_drop, Nat.add_zero]
     rw [← this, ← h1]; rfl
    have PK2 := Aside0.mk (show pks f' (rest.drop F) = (ms.drop (k + 1), er) from by
     rw [← h2, ← List.drop_drop, ← h1]; rfl)
    obtain ⟨g, c9, A2, c2, A3, c3, A4, c4, Ah, ch, Ab, cb, e9, hat, r2, r3, r4, rh, rb⟩ := pk_at S8.out k hk _ hx
    injection e9 with e9 e10 e11
    subst e9 e11
    clear e10
    have HLN := Aside0.mk (show tO.length ≤ rest.length ∧ fr.length ≤ rest.length ∧ tk.length ≤ rest.length from hread_len hrr)
    have hm := RL.out
    subst hm
    have HPF := Aside0.mk (show 1 ≤ p ∧ p ≤ F ∧ F ≤ rest.length by omega)
    obtain ⟨i05, hi5, _, hsz5, _⟩ := info_parts Hr.info5
    obtain ⟨hs4, hR4, hc4⟩ := print_take_of (P := Tryd.prog) (Value.int .u8) (0 : Int) 22 5 .i64 Tryd.underlying22 hi5 hsz5 A c rest (p : Int) (by omega) (by omega) CL.out
    obtain ⟨A5, hs5, hR5, hc5⟩ := print_mid_of (P := Tryd.prog) (Value.int .u8) (0 : Int) 22 5 .i64 .i64 Tryd.underlying22 hi5 hsz5 A c rest (p : Int) (F : Int) (by omega) (by omega) (by omega) CL.out
    simp only [Int.toNat_natCast] at hs4 hR4 hc4 hs5 hR5 hc5
    obtain ⟨A6, hs6, hR6, hc6⟩ := print_drop_of (P := Tryd.prog) (Value.int .u8) (0 : Int) 22 5 .i64 Tryd.underlying22 hi5 hsz5 A c rest (F : Int) (by omega) (by omega) CL.out
    simp only [Int.toNat_natCast] at hs6 hR6 hc6
    obtain ⟨dr, edr⟩ : ∃ dr, rest.drop F = dr := ⟨_, rfl⟩
    obtain ⟨hd, ehd⟩ : ∃ hd, rest.take p = hd := ⟨_, rfl⟩
    obtain ⟨bd, ebd⟩ : ∃ bd, (rest.take F).drop p = bd := ⟨_, rfl⟩
    rw [edr] at hs6 hR6 hc6 PK2
    rw [ehd] at hs4 hR4 hc4
    rw [ebd] at hs5 hR5 hc5
    simp only [ehd, ebd] at hat rh rb
    have HC6 := Aside0.mk (show Kd.C (Kd.int .u8) w A6 dr.length dr from Kd.C_of_reads (h1 := fun _ => rfl) (hR6 _ (Kd.reads_of_C CC.out)))
    have HCC6 := Aside0.mk hc6
    have HDr := Aside0.mk edr
    have HC4 := Aside0.mk (show Kd.C (Kd.int .u8) w A hd.length hd from Kd.C_of_reads (h1 := fun _ => rfl) (hR4 _ (Kd.reads_of_C CC.out)))
    have HC5 := Aside0.mk (show Kd.C (Kd.int .u8) w A5 bd.length bd from Kd.C_of_reads (h1 := fun _ => rfl) (hR5 _ (Kd.reads_of_C CC.out)))
    have HCC4 := Aside0.mk hc4
    have HCC5 := Aside0.mk hc5
    have HLL := Aside0.mk (show hd.length ≤ 1500 ∧ bd.length ≤ 1500 by have := R15.out; rw [← ehd, ← ebd]; simp; omega)
    have HAT := Aside0.mk hat
    have R2 := Aside0.mk r2
    have R3 := Aside0.mk r3
    have R4 := Aside0.mk r4
    have RH := Aside0.mk rh
    have RB2 := Aside0.mk rb
    have HK := Aside0.mk hk
    have k1 : decide ((n8 : Int) ≤ (k : Int)) = false := decide_eq_false (by have := N8.out; omega)
    have k2 : decide (n8 ≤ k) = false := decide_eq_false (by have := N8.out; omega)
    have k3 : decide (k < n8) = true := decide_eq_true (by have := N8.out; omega)
    have k4 : k < n8 := by have := N8.out; omega
    clear hi5 hsz5 hR4 hc4 hR5 hc5 hR6 hc6 edr ehd ebd hrr hp hp1 hp2 hp3 h1 h2 hx hat r2 r3 r4 rh rb hk
    go_upto_region 8 with (go_at_call 6; refine RR.out.mono ?_; rintro e10 w10 hR; have hR2 : ∃ z2 z3 z4 : Value, e10 = .returned (.tuple #[.agg #[.int .i64 kd, .int .i64 ver, z2, z3, z4, .int .i64 ph, .int .i64 nm, .int .i64 wd], .int .i64 (p : Int), .int .i64 ((F : Nat) : Int), .int .i64 0]) ∧ Ri.Row0 wr z2 tO ∧ Ri.Row0 wr z3 fr ∧ Ri.Row0 wr z4 tk ∧ Below wr.heap.size wr w10 := hR; obtain ⟨z2, z3, z4, rfl, ⟨Ap, cp, ep, hcp, hlp⟩, ⟨Aq, cq, eq, hcq, hlq⟩, ⟨Ar, cr, er_, hcr, hlr⟩, hb10⟩ := hR2; subst ep eq er_; have P2 := Aside0.mk (And.intro hcp hlp); have P3 := Aside0.mk (And.intro hcq hlq); have P4 := Aside0.mk (And.intro hcr hlr); have D10 := Aside0.mk hb10; clear hR hcp hlp hcq hlq hcr hlr hb10)
    obtain ⟨w11, hw11⟩ : ∃ x, w10.alloc (.cells #[.int .i64 kd, .int .i64 ver, .slice Ap tO.length cp, .slice Aq fr.length cq, .slice Ar tk.length cr, .int .i64 ph, .int .i64 nm, .int .i64 wd] 28) = x := ⟨_, rfl⟩
    have y0 : w11.cell? ⟨w10.heap.size, 0, none⟩ = some (.int .i64 kd) := by rw [← hw11, World.cell?_alloc_at _ _ _ _ rfl]; rfl
    have y1 : w11.cell? ⟨w10.heap.size, 1, none⟩ = some (.int .i64 ver) := by rw [← hw11, World.cell?_alloc_at _ _ _ _ rfl]; rfl
    have y2 : w11.cell? ⟨w10.heap.size, 2, none⟩ = some (.slice Ap tO.length cp) := by rw [← hw11, World.cell?_alloc_at _ _ _ _ rfl]; rfl
    have y3 : w11.cell? ⟨w10.heap.size, 3, none⟩ = some (.slice Aq fr.length cq) := by rw [← hw11, World.cell?_alloc_at _ _ _ _ rfl]; rfl
    have y4 : w11.cell? ⟨w10.heap.size, 4, none⟩ = some (.slice Ar tk.length cr) := by rw [← hw11, World.cell?_alloc_at _ _ _ _ rfl]; rfl
    have y5 : w11.cell? ⟨w10.heap.size, 5, none⟩ = some (.int .i64 ph) := by rw [← hw11, World.cell?_alloc_at _ _ _ _ rfl]; rfl
    have y6 : w11.cell? ⟨w10.heap.size, 6, none⟩ = some (.int .i64 nm) := by rw [← hw11, World.cell?_alloc_at _ _ _ _ rfl]; rfl
    have y7 : w11.cell? ⟨w10.heap.size, 7, none⟩ = some (.int .i64 wd) := by rw [← hw11, World.cell?_alloc_at _ _ _ _ rfl]; rfl
    have D11 := Aside0.mk (show Below wr.heap.size wr w11 by rw [← hw11]; exact below_alloc D10.out _)
    try simp only [hw11]
    have B11 := Aside0.mk (below_step B8.out (below_step BW.out D11.out))
    have E11 := Aside0.mk (below_step BW.out D11.out)
    have x0 : w11.cell? ⟨g, k * 10 + 0, none⟩ = some (.int .i64 kd) := pw_cell_below E11.out (HAT.out 0 _ rfl)
    have x1 : w11.cell? ⟨g, k * 10 + 1, none⟩ = some (.int .i64 ver) := pw_cell_below E11.out (HAT.out 1 _ rfl)
    have x2 : w11.cell? ⟨g, k * 10 + 2, none⟩ = some (.slice A2 tO.length c2) := pw_cell_below E11.out (HAT.out 2 _ rfl)
    have x3 : w11.cell? ⟨g, k * 10 + 3, none⟩ = some (.slice A3 fr.length c3) := pw_cell_below E11.out (HAT.out 3 _ rfl)
    have x4 : w11.cell? ⟨g, k * 10 + 4, none⟩ = some (.slice A4 tk.length c4) := pw_cell_below E11.out (HAT.out 4 _ rfl)
    have x5 : w11.cell? ⟨g, k * 10 + 5, none⟩ = some (.int .i64 ph) := pw_cell_below E11.out (HAT.out 5 _ rfl)
    have x6 : w11.cell? ⟨g, k * 10 + 6, none⟩ = some (.int .i64 nm) := pw_cell_below E11.out (HAT.out 6 _ rfl)
    have x7 : w11.cell? ⟨g, k * 10 + 7, none⟩ = some (.int .i64 wd) := pw_cell_below E11.out (HAT.out 7 _ rfl)
    have x8 : w11.cell? ⟨g, k * 10 + 8, none⟩ = some (.slice Ah hd.length ch) := pw_cell_below E11.out (HAT.out 8 _ rfl)
    have x9 : w11.cell? ⟨g, k * 10 + 9, none⟩ = some (.slice Ab bd.length cb) := pw_cell_below E11.out (HAT.out 9 _ rfl)
    have f0 := x0
    rw [Nat.add_zero] at f0
    clear hw11 RR
    have TD := Aside0.mk (fun (W : World) (hb : Below w11.heap.size w11 W) => shibbolethlaw05_told.calls 3000 kd ver A2 c2 tO A3 c3 fr A4 c4 tk ph nm wd kd ver Ap cp tO Aq cq fr Ar cr tk ph nm wd true W (Kd.C_below R2.out.2 (below_step E11.out hb)) R2.out.1 (Kd.C_below R3.out.2 (below_step E11.out hb)) R3.out.1 (Kd.C_below R4.out.2 (below_step E11.out hb)) R4.out.1 (Kd.C_below P2.out.1 (below_step D11.out hb)) P2.out.2 (Kd.C_below P3.out.1 (below_step D11.out hb)) P3.out.2 (Kd.C_below P4.out.1 (below_step D11.out hb)) P4.out.2 (told_f _ _ _ _ _ _ _ _ (by have := HLN.out; have := R15.out; omega) (by have := HLN.out; have := R15.out; omega) (by have := HLN.out; have := R15.out; omega)))
    have S1 := Aside0.mk (fun (W : World) (hb : Below w11.heap.size w11 W) => shibbolethlaw05_same.calls 3000 Ah ch hd A c hd true W (Kd.C_below RH.out.2 (below_step E11.out hb)) RH.out.1 (Kd.C_below HC4.out (below_step B11.out hb)) HCC4.out (same_f hd (by have := HLL.out; omega) 3000 (by have := HLL.out; omega)))
    have S2 := Aside0.mk (fun (W : World) (hb : Below w11.heap.size w11 W) => shibbolethlaw05_same.calls 3000 Ab cb bd A5 (c - p) bd true W (Kd.C_below RB2.out.2 (below_step E11.out hb)) RB2.out.1 (Kd.C_below HC5.out (below_step B11.out hb)) HCC5.out (same_f bd (by have := HLL.out; omega) 3000 (by have := HLL.out; omega)))
    have KEEP := Aside0.mk (show ∀ W, Below w11.heap.size w11 W → Below w11.heap.size w11 W ∧ W.cell? ⟨g, k * 10, none⟩ = some (.int .i64 kd) ∧ W.cell? ⟨g, k * 10 + 1, none⟩ = some (.int .i64 ver) ∧ W.cell? ⟨g, k * 10 + 2, none⟩ = some (.slice A2 tO.length c2) ∧ W.cell? ⟨g, k * 10 + 3, none⟩ = some (.slice A3 fr.length c3) ∧ W.cell? ⟨g, k * 10 + 4, none⟩ = some (.slice A4 tk.length c4) ∧ W.cell? ⟨g, k * 10 + 5, none⟩ = some (.int .i64 ph) ∧ W.cell? ⟨g, k * 10 + 6, none⟩ = some (.int .i64 nm) ∧ W.cell? ⟨g, k * 10 + 7, none⟩ = some (.int .i64 wd) ∧ W.cell? ⟨g, k * 10 + 8, none⟩ = some (.slice Ah hd.length ch) ∧ W.cell? ⟨g, k * 10 + 9, none⟩ = some (.slice Ab bd.length cb) ∧ W.cell? ⟨w10.heap.size, 0, none⟩ = some (.int .i64 kd) ∧ W.cell? ⟨w10.heap.size, 1, none⟩ = some (.int .i64 ver) ∧ W.cell? ⟨w10.heap.size, 2, none⟩ = some (.slice Ap tO.length cp) ∧ W.cell? ⟨w10.heap.size, 3, none⟩ = some (.slice Aq fr.length cq) ∧ W.cell? ⟨w10.heap.size, 4, none⟩ = some (.slice Ar tk.length cr) ∧ W.cell? ⟨w10.heap.size, 5, none⟩ = some (.int .i64 ph) ∧ W.cell? ⟨w10.heap.size, 6, none⟩ = some (.int .i64 nm) ∧ W.cell? ⟨w10.heap.size, 7, none⟩ = some (.int .i64 wd) from fun W hb => ⟨hb, pw_cell_below hb f0, pw_cell_below hb x1, pw_cell_below hb x2, pw_cell_below hb x3, pw_cell_below hb x4, pw_cell_below hb x5, pw_cell_below hb x6, pw_cell_below hb x7, pw_cell_below hb x8, pw_cell_below hb x9, pw_cell_below hb y0, pw_cell_below hb y1, pw_cell_below hb y2, pw_cell_below hb y3, pw_cell_below hb y4, pw_cell_below hb y5, pw_cell_below hb y6, pw_cell_below hb y7⟩)
    have hfm : Tryd.prog.follows .mixedOrders = true := by kernel_rfl
    go_upto_region 10 with fail
    go_region_held3 (fun W => Below w11.heap.size w11 W ∧ W.cell? ⟨g, k * 10, none⟩ = some (.int .i64 kd) ∧ W.cell? ⟨g, k * 10 + 1, none⟩ = some (.int .i64 ver) ∧ W.cell? ⟨g, k * 10 + 2, none⟩ = some (.slice A2 tO.length c2) ∧ W.cell? ⟨g, k * 10 + 3, none⟩ = some (.slice A3 fr.length c3) ∧ W.cell? ⟨g, k * 10 + 4, none⟩ = some (.slice A4 tk.length c4) ∧ W.cell? ⟨g, k * 10 + 5, none⟩ = some (.int .i64 ph) ∧ W.cell? ⟨g, k * 10 + 6, none⟩ = some (.int .i64 nm) ∧ W.cell? ⟨g, k * 10 + 7, none⟩ = some (.int .i64 wd) ∧ W.cell? ⟨g, k * 10 + 8, none⟩ = some (.slice Ah hd.length ch) ∧ W.cell? ⟨g, k * 10 + 9, none⟩ = some (.slice Ab bd.length cb) ∧ W.cell? ⟨w10.heap.size, 0, none⟩ = some (.int .i64 kd) ∧ W.cell? ⟨w10.heap.size, 1, none⟩ = some (.int .i64 ver) ∧ W.cell? ⟨w10.heap.size, 2, none⟩ = some (.slice Ap tO.length cp) ∧ W.cell? ⟨w10.heap.size, 3, none⟩ = some (.slice Aq fr.length cq) ∧ W.cell? ⟨w10.heap.size, 4, none⟩ = some (.slice Ar tk.length cr) ∧ W.cell? ⟨w10.heap.size, 5, none⟩ = some (.int .i64 ph) ∧ W.cell? ⟨w10.heap.size, 6, none⟩ = some (.int .i64 nm) ∧ W.cell? ⟨w10.heap.size, 7, none⟩ = some (.int .i64 wd))
     (first | exact KEEP.out _ (by assumption) | exact KEEP.out _ (pw_below_drewN (And.left (by assumption)) _) | exact KEEP.out _ (below_drew (And.left (by assumption))) | exact KEEP.out _ (pw_below_drewN (by assumption) _) | exact KEEP.out _ (below_drew (by assumption)) | exact KEEP.out _ (Below.refl _ _) | exact KEEP.out _ (below_drew (Below.refl _ _)))
     (first
      | (go_at_call 8; with_reducible refine (TD.out _ (And.left (by assumption))).mono ?_; rintro e12 w12 ⟨rfl, hb12⟩; have E12 := below_step (And.left (by assumption) : Below w11.heap.size w11 _) hb12; clear hb12)
      | (go_at_call 9; with_reducible refine (S1.out _ (And.left (by assumption))).mono ?_; rintro e13 w13 ⟨rfl, ⟨n13, rfl⟩⟩)
      | (go_at_call 9; with_reducible refine (S2.out _ (And.left (by assumption))).mono ?_; rintro e14 w14 ⟨rfl, ⟨n14, rfl⟩⟩))
    have BW' := Aside0.mk (show Below w8.heap.size w8 (w12.drewN (n13 + n14)) from below_step E11.out (pw_below_drewN E12 _))
    have nb : n8 ≤ 1501 := by have := HMS.out; have := N8.out; omega
    clear KEEP TD S1 S2 x0 x1 x2 x3 x4 x5 x6 x7 x8 x9 y0 y1 y2 y3 y4 y5 y6 y7 f0 E12 hs4 hs5 k1 k2 k3
    go_wp2
    go_roundg dr.length
    case measure => have h1 := HG.out; have h2 := HPF.out; have h3 := HDr.out; rw [← h3]; simp; omega
    case rel =>
     have hlen : dr.length = rest.length - F := by rw [← HDr.out]; simp
     refine ⟨dr, f', A6, c - F, dr.length, k + 1, by simp, rfl, Nat.le_refl _, ⟨rfl⟩, ⟨?_⟩, PK2, ⟨HK.out⟩, HC6, HCC6, ⟨?_⟩, ⟨?_⟩, BW'⟩
     ·have := FL.out; have := HPF.out; omega
     ·rw [← HDr.out]; exact fun y hy => RB.out y (List.mem_of_mem_drop hy)
     ·have := R15.out; omega
end Go.Proofs.YtpihkmpcnkhnfaaDoor.QHs
namespace Go.Proofs.YtpihkmpcnkhnfaaDoor.Opn
open Go.RowKit Go.Proofs.YtpihkmpcnkhnfaaDoorW.PrintWords
set_option linter.unusedVariables false
variable {P : Program}
def Opens (P : Program) (t : TypeId) {α : Type} (d : Kd α) (ok : α → Prop) : Prop :=
  ∀ (H : Type) (enc : TypeId × Value → H) (w : World) (base : Nat) (spare : Nat → Bool) (held : Bool) (fuel : Nat) (cs : List Value) (x : DataW H × List MemPlace),
    DataW.trod enc P w base spare held fuel t cs = some x → ∃ a, d.K w a cs ∧ ok a
theorem Opens.int {t : TypeId} {k : IntKind} (ht : P.underlying t = some (.int k)) : Opens P t (Kd.int k) (fun n => (Lit.int k n).wf = true) := by
  intro H enc w base spare held fuel cs x h
  obtain ⟨n, rfl, _, hw⟩ := DataW.trod_int ht h
  exact ⟨n, rfl, hw⟩
theorem Opens.bool {t : TypeId} (ht : P.underlying t = some .bool) : Opens P t Kd.bool (fun _ => True) := by
  intro H enc w base spare held fuel cs x h
  obtain ⟨b, rfl, _⟩ := DataW.trod_bool ht h
  exact ⟨b, rfl, trivial⟩
theorem Opens.slice {t e : TypeId} {α : Type} {d : Kd α} {ok : α → Prop} (ht : P.underlying t = some (.slice e)) (hs : P.cellsOf e = d.sz) (he : Opens P e d ok) :
    Opens P t (Kd.slice e d) (fun xs => xs.length ≤ 9223372036854775807 ∧ ∀ x ∈ xs, ok x) := by
  classical
  intro H enc w base spare held fuel cs x h
  rcases Go.Deep.open_slice ht h with ⟨rfl, _⟩ | ⟨a, len, cap, m, n, D, Pl, rfl, hb, hl, hm, hmm, _, hx⟩
  · exact ⟨[], ⟨none, 0, rfl, by simp, Kd.C_nil d w⟩, by simp, by simp⟩
  · have hlm : len ≤ m := by rw [hmm]; split <;> omega
    have hex : ∀ i, i < len → ∃ p : α, (∃ c, c.length = d.sz ∧ d.K w p c ∧ ∀ j u, c[j]? = some u → w.cell? (a.add (i * d.sz + j)) = some u) ∧ ok p := by
      intro i hi
      obtain ⟨c, hc1, hc2⟩ := hx i (by omega)
      obtain ⟨_, hlen, hcell⟩ := World.cells?_some hc1
      obtain ⟨p, hK, ho⟩ := he H enc w base spare held n c _ hc2
      rw [hs] at hlen hcell
      refine ⟨p, ⟨c, hlen, hK, fun j u hj => ?_⟩, ho⟩
      have hjl : j < d.sz := by
        rcases Nat.lt_or_ge j c.length with h1 | h1
        · omega
        · rw [List.getElem?_eq_none h1] at hj; cases hj
      have := hcell j hjl
      rw [Addr.add_add] at this
      rw [this, hj]
    have hmax : len ≤ 9223372036854775807 := by have := hm; simp only [maxLen] at this; omega
    have hL : ∃ l : List α, l.length = len ∧ ∀ (i : Nat) (p : α), l[i]? = some p → (∃ c, c.length = d.sz ∧ d.K w p c ∧ ∀ j u, c[j]? = some u → w.cell? (a.add (i * d.sz + j)) = some u) ∧ ok p := by
      refine ⟨List.ofFn (fun i : Fin len => Classical.choose (hex i.1 i.2)), by simp, fun i p hp => ?_⟩
      rw [List.getElem?_ofFn] at hp
      split at hp
      · rename_i hi
        obtain rfl := Option.some.inj hp
        exact Classical.choose_spec (hex i hi)
      · cases hp
    obtain ⟨l, hlen, hall⟩ := hL
    refine ⟨l, ⟨some a, cap, by rw [hlen], by omega, hlen ▸ rfl, by omega, fun _ => ⟨a, rfl, fun j p hp => (hall j p hp).1⟩⟩, by omega, fun p hp => ?_⟩
    obtain ⟨i, hi, rfl⟩ := List.mem_iff_getElem.1 hp
    exact (hall i _ (List.getElem?_eq_getElem hi)).2
def OpensF (P : Program) (fs : List Field) (off : Nat) {α : Type} (d : Kd α) (ok : α → Prop) : Prop :=
  ∀ (H : Type) (enc : TypeId × Value → H) (w : World) (base : Nat) (spare : Nat → Bool) (held : Bool) (n : Nat) (cs : List Value), cs.length = off + d.sz →
    (∀ f, f ∈ fs → ∃ y, DataW.trod enc P w base spare held n f.type ((cs.drop f.offset).take (P.cellsOf f.type)) = some y) → ∃ a, d.K w a (cs.drop off) ∧ ok a
theorem OpensF.last {f : Field} {off : Nat} {α : Type} {d : Kd α} {ok : α → Prop} (ho : f.offset = off) (hc : P.cellsOf f.type = d.sz) (h : Opens P f.type d ok) : OpensF P [f] off d ok := by
  intro H enc w base spare held n cs hl hf
  obtain ⟨y, hy⟩ := hf f (List.mem_singleton.2 rfl)
  rw [ho, hc, List.take_of_length_le (by simp; omega)] at hy
  exact h H enc w base spare held n _ _ hy
theorem OpensF.cons {f : Field} {fs : List Field} {off : Nat} {α β : Type} {d : Kd α} {d' : Kd β} {ok : α → Prop} {ok' : β → Prop} (ho : f.offset = off) (hc : P.cellsOf f.type = d.sz) (h : Opens P f.type d ok) (h' : OpensF P fs (off + d.sz) d' ok') :
    OpensF P (f :: fs) off (Kd.pair d d') (fun p => ok p.1 ∧ ok' p.2) := by
  intro H enc w base spare held n cs hl hf
  have hl' : cs.length = off + (d.sz + d'.sz) := hl
  obtain ⟨y, hy⟩ := hf f (List.mem_cons_self ..)
  rw [ho, hc] at hy
  obtain ⟨a, hK, hok⟩ := h H enc w base spare held n _ _ hy
  obtain ⟨b, hK', hok'⟩ := h' H enc w base spare held n cs (by omega) (fun g hg => hf g (List.mem_cons_of_mem _ hg))
  refine ⟨(a, b), ⟨_, _, ?_, hK, hK'⟩, hok, hok'⟩
  rw [← List.drop_drop, List.take_append_drop]
theorem OpensF.iso {fs : List Field} {off : Nat} {α β : Type} {d : Kd α} {ok : α → Prop} {f : β → α} (g : α → β) (hg : ∀ a, f (g a) = a) (h : OpensF P fs off d ok) : OpensF P fs off (Kd.iso d f) (fun b => ok (f b)) := by
  intro H enc w base spare held n cs hl hf
  obtain ⟨a, hK, hok⟩ := h H enc w base spare held n cs hl hf
  exact ⟨g a, by show d.K w (f (g a)) _; rw [hg]; exact hK, by show ok (f (g a)); rw [hg]; exact hok⟩
theorem Opens.struct {t : TypeId} {fs : Array Field} {α : Type} {d : Kd α} {ok : α → Prop} (ht : P.underlying t = some (.struct fs)) (hs : P.cellsOf t = d.sz) (h : OpensF P fs.toList 0 d ok) : Opens P t d ok := by
  intro H enc w base spare held fuel cs x hx
  obtain ⟨xs, n, _, _, hl, hlen, hf⟩ := DataW.trod_struct ht hx
  have := h H enc w base spare held n cs (by rw [hl, hs]; omega) (fun f hm => ?_)
  · rwa [List.drop_zero] at this
  · obtain ⟨i, hi, rfl⟩ := List.mem_iff_getElem.1 hm
    have hi' : i < fs.size := by simpa using hi
    have := hf i fs[i] (by simp [hi'])
    refine ⟨xs[i]'(by omega), ?_⟩
    rw [List.getElem?_eq_getElem (show i < xs.length by omega)] at this
    simpa using this
theorem Opens.value {t : TypeId} {α : Type} {d : Kd α} {ok : α → Prop} (h : Opens P t d ok) {H : Type} {enc : TypeId × Value → H} {w : World} {base : Nat} {spare : Nat → Bool} {held : Bool} {v : Value} {x : DataW H} {ps : List MemPlace} (hv : DataW.Trod enc P w base spare held t v x ps) :
    ∃ a, d.K w a v.cells.toList ∧ ok a := by
  obtain ⟨fuel, hf⟩ := hv
  exact h H enc w base spare held fuel _ _ hf
theorem Opens.sliceValue {t e : TypeId} {α : Type} {d : Kd α} {ok : List α → Prop} (h : Opens P t (Kd.slice e d) ok) {H : Type} {enc : TypeId × Value → H} {w : World} {base : Nat} {spare : Nat → Bool} {held : Bool} {a : Option Addr} {len cap : Nat} {x : DataW H} {ps : List MemPlace} (hv : DataW.Trod enc P w base spare held t (.slice a len cap) x ps) :
    ∃ l : List α, len = l.length ∧ l.length ≤ cap ∧ d.C w a l.length l ∧ ok l := by
  obtain ⟨l, ⟨A, c, hcs, hl, hC⟩, ho⟩ := h.value hv
  simp [Value.cells] at hcs
  obtain ⟨rfl, rfl, rfl⟩ := hcs
  exact ⟨l, rfl, hl, hC, ho⟩
end Go.Proofs.YtpihkmpcnkhnfaaDoor.Opn
namespace Go.Proofs.YtpihkmpcnkhnfaaDoor.headerSplitsPrm
open Go.RowKit Go.Proofs.YtpihkmpcnkhnfaaDoorW.PrintWords Go.Proofs.YtpihkmpcnkhnfaaDoor.QHs Go.Proofs.YtpihkmpcnkhnfaaDoor.Opn
set_option linter.unusedVariables false
def ok5 : Int → Prop := fun n => (Lit.int .u8 n).wf = true
theorem opens_ok5 : Opens Tryd.prog 5 (Kd.int .u8) ok5 := Opens.int Tryd.underlying5
def ok22 : List (Int) → Prop := fun xs => xs.length ≤ 9223372036854775807 ∧ ∀ x ∈ xs, ok5 x
theorem opens_ok22 : Opens Tryd.prog 22 (Kd.slice 5 (Kd.int .u8)) ok22 := Opens.slice Tryd.underlying22 (by kernel_rfl) opens_ok5
def Pure : Prop := ∀ (x0 : List (Int)), ok22 x0 → shibbolethlaw05_HeaderSplits.f x0 = some true
end Go.Proofs.YtpihkmpcnkhnfaaDoor.headerSplitsPrm
namespace Go.Proofs.YtpihkmpcnkhnfaaDoor.Pure
open Go Go.RowKit Go.Proofs.YtpihkmpcnkhnfaaDoor.QHs Go.Proofs.YtpihkmpcnkhnfaaDoor.QHc Go.Proofs.YtpihkmpcnkhnfaaDoorW.PrintWords
set_option linter.unusedVariables false
theorem u8b {x : Int} (h : (Lit.int .u8 x).wf = true) : 0 ≤ x ∧ x ≤ 255 := by
  simp [Lit.wf, IntKind.min, IntKind.max, IntKind.signed, IntKind.bits] at h
  omega
theorem HeaderSplits : headerSplitsPrm.Pure := by
  intro l hn
  unfold shibbolethlaw05_HeaderSplits.f
  exact if_pos (fun x hx => u8b (hn.2 x hx))
end Go.Proofs.YtpihkmpcnkhnfaaDoor.Pure
namespace Go.Proofs.YtpihkmpcnkhnfaaDoor.Tab
open Go.RowKit Go.Proofs.YtpihkmpcnkhnfaaDoor.Gv
set_option linter.unusedVariables false
def laid {H : Type} : List (String × DataW H) := [((Rows.headerSplitsRow.named).getD 0 default, Rows.laid_math_bits_deBruijn32tab), ((Rows.headerSplitsRow.named).getD 1 default, Rows.laid_math_bits_deBruijn64tab)]
theorem g64 : Tryd.prog.globalNamed ((Rows.headerSplitsRow.named).getD 1 default) = some 1 := by kernel_rfl
theorem ty64 : (Tryd.prog.globals[1]?).map (·.type) = some 84 := by kernel_rfl
theorem of_laid {W : World} (h : laidMet Tryd.prog laid W) : TB W := by
  have h2 : laidMet Tryd.prog [((Rows.headerSplitsRow.named).getD 1 default, Lib.tabData .u8 tab64)] W := h.tail
  have ht : Lib.TabIs Tryd.prog W ((Rows.headerSplitsRow.named).getD 1 default) .u8 tab64 := Lib.tabIs_of_head g64 ty64 Tryd.underlying84 Tryd.underlying5 (by kernel_rfl) (by kernel_rfl) h2
  exact ⟨fun i hi => ht.cell g64 i hi⟩
def tab32 : List Int := [0, 1, 28, 2, 29, 14, 24, 3, 30, 22, 20, 15, 25, 17, 4, 8, 31, 27, 13, 23, 21, 19, 16, 7, 26, 12, 18, 6, 11, 5, 10, 9]
noncomputable def laidWorld (os : Os) : World :=
  let w0 := World.holding Tryd.prog os ⟨#[], #[], []⟩
  { w0 with heap := (w0.heap.modify 0 fun
      | .cells _ t frozen => .cells (tab32.map fun z => Value.int .u8 z).toArray t frozen
      | o => o).modify 1 fun
      | .cells _ t frozen => .cells (tab64.map fun z => Value.int .u8 z).toArray t frozen
      | o => o }
set_option maxRecDepth 100000 in
theorem laidWorld_met (os : Os) (args : Array Value) : laidMet Tryd.prog laid ((laidWorld os).forCall (fun _ _ => 0) ⟨#[], args, []⟩).memory :=
  laidMet_of_run' 8 (by kernel_rfl) (by kernel_rfl)
end Go.Proofs.YtpihkmpcnkhnfaaDoor.Tab
