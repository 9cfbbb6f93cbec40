/- A part of the proof of the law HeaderJoins: QHex5, HeP, HrP, QHcx0, Hsj0, Rng0, Hsk0, Hsk1, Hsk2, QHsx0. -/
import Derived.Test.YtpihkmpcnkhnfaaDoorZHj03
import Derived.Test.YtpihkmpcnkhnfaaDoorZHj02
import Derived.Test.YtpihkmpcnkhnfaaDoorZHj06
import Derived.Test.YtpihkmpcnkhnfaaDoorZHj07
import Derived.RangeFuncBox
import Derived.RangeFuncNested
import Derived.RangeFuncCalls
import Derived.RangeFuncLeaves
import Derived.Shelf.Abstract
import Derived.WalkKit
import Derived.OwnWalkIn
import Derived.TacticsInMore
import Derived.LoopNIn
import Derived.LoopIn
import Derived.Sort.LoopGhostIn
import Derived.Deep.QuietTactic
import Derived.BigQuiet
import Derived.Maps.AppendAt
import Derived.Shelf.RegionOpen
import Derived.Test.YtpihkmpcnkhnfaaDoorProg
import Derived.Maps.OwnIn
import Derived.Deep.LoopGhost
import Derived.Deep.RegionHeld3
namespace Go.Proofs.YtpihkmpcnkhnfaaDoor.QHe
open Go.RowKit Go.Proofs.YtpihkmpcnkhnfaaDoorW.PrintWords Go.Proofs.YtpihkmpcnkhnfaaDoorW.PrintLast Go.Proofs.YtpihkmpcnkhnfaaDoorW.PrintMore
attribute [local go_sem] max2_int min2_int max_two min_two max_three min_three max_four min_four
set_option linter.unusedVariables false
set_option linter.unusedSimpArgs false
end Go.Proofs.YtpihkmpcnkhnfaaDoor.QHe
namespace Go.Proofs.YtpihkmpcnkhnfaaDoor.HeP
open Go.RowKit Go.Proofs.YtpihkmpcnkhnfaaDoorW.PrintWords Go.Proofs.YtpihkmpcnkhnfaaDoorW.PrintLast Go.Proofs.YtpihkmpcnkhnfaaDoorW.PrintMore Go.Proofs.YtpihkmpcnkhnfaaDoor.QHe Go.Proofs.YtpihkmpcnkhnfaaDoor.Vn
open Go.Proofs.YtpihkmpcnkhnfaaDoor.Gw (slices_Concat_byte_byte.f)
open Go.Proofs.YtpihkmpcnkhnfaaDoor.QVa (varint_Append.f varint_Give.f)
open Go.Proofs.YtpihkmpcnkhnfaaDoor.VaP (append_f)
set_option linter.unusedVariables false
set_option linter.unusedSimpArgs false
theorem same_l (l : List Int) (hl : l.length ≤ 9223372036854775806) : ∀ (d i k : Nat), i + d = l.length → d < k → shibbolethlaw05_same.l0 k l l (i : Int) = some true := by
  intro d
  induction d with
  | zero =>
    intro i k hi hk
    obtain ⟨k, rfl⟩ : ∃ m, k = m + 1 := ⟨k - 1, by omega⟩
    simp only [shibbolethlaw05_same.l0]
    rw [if_neg (by omega)]
  | succ d ih =>
    intro i k hi hk
    obtain ⟨k, rfl⟩ : ∃ m, k = m + 1 := ⟨k - 1, by omega⟩
    simp only [shibbolethlaw05_same.l0]
    rw [if_pos (by omega), if_pos (by omega), if_pos (by omega), if_pos trivial, show wrap64 ((i : Int) + 1) = ((i + 1 : Nat) : Int) from by unfold wrap64; omega]
    exact ih (i + 1) k (by omega) (by omega)
theorem same_f (l : List Int) (hl : l.length ≤ 9223372036854775806) (k : Nat) (hk : l.length < k) : shibbolethlaw05_same.f k l l = some true := by
  unfold shibbolethlaw05_same.f
  rw [if_pos rfl]
  exact same_l l hl l.length 0 k (by omega) hk
def hbig (n : Int) (w : Int) : List Int :=
  if w = 1 then [n % 256] else if w = 2 then [n / 256 % 256, n % 256] else if w = 3 then [n / 65536 % 256, n / 256 % 256, n % 256] else [n / 16777216 % 256, n / 65536 % 256, n / 256 % 256, n % 256]
theorem hbig_len (n w : Int) : (hbig n w).length ≤ 4 := by unfold hbig; (repeat' split) <;> simp
theorem big_f (n w : Int) (h1 : 1 ≤ w) (h4 : w ≤ 4) (k : Nat) (hk : 5 < k) : header_big.f k n w = some (hbig n w) := by
  obtain ⟨k, rfl⟩ : ∃ m, k = m + 6 := ⟨k - 6, by omega⟩
  unfold header_big.f
  rw [if_pos (by omega), if_pos (by omega)]
  obtain rfl | rfl | rfl | rfl : w = 1 ∨ w = 2 ∨ w = 3 ∨ w = 4 := by omega
  all_goals simp [header_big.l0, wrap64, shr, IntKind.bits, hbig, List.replicate]
def hbound (w : Int) : Int := if w = 1 then 256 else if w = 2 then 65536 else if w = 3 then 16777216 else 4294967296
theorem wide_f (n w : Int) (h1 : 1 ≤ w) (h4 : w ≤ 4) : header_wide.f n w = some (decide (0 ≤ n ∧ n < hbound w)) := by
  unfold header_wide.f
  obtain rfl | rfl | rfl | rfl : w = 1 ∨ w = 2 ∨ w = 3 ∨ w = 4 := by omega
  all_goals
    by_cases h : 0 ≤ n
    · simp [h, wrap64, shl, IntKind.wrap, IntKind.bits, IntKind.signed, hbound]
    · simp [h]
def hright (a0 a1 : Int) (l2 l3 l4 : List Int) (a5 a6 a7 : Int) : Prop := 1 ≤ a7 ∧ a7 ≤ 4 ∧ 0 ≤ a6 ∧ a6 < hbound a7 ∧
  ((a0 = 3 ∧ a1 = 0 ∧ l2.length = 8 ∧ l3.length = 0 ∧ l4.length = 0 ∧ (a5 = 0 ∨ a5 = 1)) ∨
   (0 ≤ a0 ∧ a0 < 3 ∧ 1 ≤ a1 ∧ a1 ≤ 4294967295 ∧ l2.length ≤ 20 ∧ l3.length ≤ 20 ∧ a5 = 0 ∧ l4.length ≤ 64 ∧ (a0 = 0 ∨ l4.length = 0)))
instance (a0 a1 : Int) (l2 l3 l4 : List Int) (a5 a6 a7 : Int) : Decidable (hright a0 a1 l2 l3 l4 a5 a6 a7) := by unfold hright; infer_instance
theorem some_decide {p q : Prop} [Decidable p] [Decidable q] (h : p ↔ q) : some (decide p) = some (decide q) := by simp [h]
theorem beq_decide (a b : Int) : (a == b) = decide (a = b) := by by_cases h : a = b <;> simp [h]
theorem true_decide {q : Prop} [Decidable q] (h : q) : some true = some (decide q) := by simp [h]
theorem false_decide {q : Prop} [Decidable q] (h : ¬ q) : some false = some (decide q) := by simp [h]
theorem right_f (a0 a1 : Int) (l2 l3 l4 : List Int) (a5 a6 a7 : Int) (k : Nat) (hk : 5 < k) : header_Right.f k a0 a1 l2 l3 l4 a5 a6 a7 = some (decide (hright a0 a1 l2 l3 l4 a5 a6 a7)) := by
  obtain ⟨k, rfl⟩ : ∃ m, k = m + 1 := ⟨k - 1, by omega⟩
  unfold header_Right.f
  by_cases h1 : a7 < 1
  · rw [if_pos h1]; simp only [header_Right.j0]; rw [if_pos trivial]; exact false_decide (by unfold hright; omega)
  rw [if_neg h1]
  by_cases h4 : a7 > 4
  · rw [if_pos h4]; simp only [header_Right.j0]; rw [if_pos trivial]; exact false_decide (by unfold hright; omega)
  rw [if_neg h4, wide_f a6 a7 (by omega) (by omega)]
  simp only [Option.bind_some, header_Right.j0]
  by_cases hb : 0 ≤ a6 ∧ a6 < hbound a7
  · rw [decide_eq_true hb, if_neg (by decide), wide_f a1 4 (by omega) (by omega)]
    simp only [Option.bind_some, beq_decide, decide_eq_true_eq, show hbound 4 = 4294967296 from rfl]
    repeat' split
    all_goals first | exact true_decide (by unfold hright; omega) | exact false_decide (by unfold hright; omega) | exact some_decide (by unfold hright; omega)
  · rw [decide_eq_false hb, if_pos (by decide)]
    exact false_decide (by unfold hright; omega)
def hbytes (a0 a1 : Int) (l2 l3 l4 : List Int) (a5 a6 a7 n : Int) : List Int :=
  if a0 = 3 then [63 + 4 * a5 + a7] ++ l2 ++ hbig a6 a7
  else [191 + 16 * a0 + a7] ++ hbig a1 4 ++ ((l2.length : Int) :: l2) ++ ((l3.length : Int) :: l3) ++ (if a0 = 0 then vbytes l4.length ++ l4 else []) ++ vbytes (a7 + n) ++ hbig a6 a7
theorem hbytes_len (a0 a1 : Int) (l2 l3 l4 : List Int) (a5 a6 a7 n : Int) (h : hright a0 a1 l2 l3 l4 a5 a6 a7) : (hbytes a0 a1 l2 l3 l4 a5 a6 a7 n).length ≤ 200 := by
  have e1 := hbig_len a6 a7
  have e2 := hbig_len a1 4
  have e3 := vbytes_le (l4.length : Int)
  have e4 := vbytes_le (a7 + n)
  unfold hright at h
  unfold hbytes
  split
  · simp; omega
  · split <;> simp <;> omega
theorem named_f (l : List Int) (h : l.length ≤ 255) : header_named.f l = some ((l.length : Int) :: l) := by
  unfold header_named.f
  simp only [Option.bind_some]
  rw [if_pos (by simp; omega), show (l.length : Int) % 256 = l.length from by omega]
  rfl
theorem concat_f (y : List (List Int)) (h : y.flatten.length ≤ 140737488355328) : slices_Concat_byte_byte.f y = some y.flatten := by
  unfold slices_Concat_byte_byte.f
  rw [if_pos h]
theorem give_f (l p : List Int) (hl : l.length ≤ 100000) (hp : p.length ≤ 100000) (k : Nat) (hk : 9 < k) : varint_Give.f k l p = some (l ++ vbytes p.length ++ p) := by
  have h8 := vbytes_le (p.length : Int)
  unfold varint_Give.f
  rw [append_f l _ (by omega) k hk]
  simp only [Option.bind_some]
  rw [if_pos (by rw [List.length_append]; omega)]
theorem write_f (a0 a1 : Int) (l2 l3 l4 : List Int) (a5 a6 a7 n : Int) (k : Nat) (hk : 40 < k) : header_Write.f k a0 a1 l2 l3 l4 a5 a6 a7 n =
    some (if hright a0 a1 l2 l3 l4 a5 a6 a7 ∧ 0 ≤ n ∧ n ≤ 16384 then hbytes a0 a1 l2 l3 l4 a5 a6 a7 n else []) := by
  obtain ⟨k, rfl⟩ : ∃ m, k = m + 1 := ⟨k - 1, by omega⟩
  unfold header_Write.f
  rw [right_f _ _ _ _ _ _ _ _ _ (by omega)]
  simp only [Option.bind_some]
  by_cases h : hright a0 a1 l2 l3 l4 a5 a6 a7
  · rw [decide_eq_true h, if_pos rfl]
    by_cases h0 : n < 0
    · rw [if_pos h0, if_neg (by omega)]; simp only [header_Write.j0]; rw [if_pos trivial]
    rw [if_neg h0]
    by_cases h1 : n > 16384
    · rw [decide_eq_true h1, if_neg (by omega)]; simp only [header_Write.j0]; rw [if_pos trivial]
    rw [decide_eq_false h1, if_pos ⟨h, by omega, by omega⟩]
    simp only [header_Write.j0]
    rw [if_neg (by decide)]
    have hh := h
    unfold hright at hh
    have e1 := hbig_len a6 a7
    have e2 := hbig_len a1 4
    have e3 := vbytes_le (l4.length : Int)
    have e4 := vbytes_le (a7 + n)
    unfold hbytes
    by_cases h3 : a0 = 3
    · rw [if_pos h3, if_pos h3, big_f _ _ (by omega) (by omega) _ (by omega)]
      simp only [Option.bind_some]
      have w1 : wrap64 ((wrap64 ((wrap64 (64 + (wrap64 (4 * a5)))) + a7)) - 1) % 256 = 63 + 4 * a5 + a7 := by unfold wrap64; omega
      rw [w1, concat_f _ (by simp; omega)]
      simp
    · rw [if_neg h3, if_neg h3, big_f _ _ (by omega) (by omega) _ (by omega), big_f _ _ (by omega) (by omega) _ (by omega), named_f _ (by omega), named_f _ (by omega)]
      simp only [Option.bind_some]
      have w1 : wrap64 ((wrap64 ((wrap64 (192 + (wrap64 (16 * a0)))) + a7)) - 1) % 256 = 191 + 16 * a0 + a7 := by unfold wrap64; omega
      have w2 : wrap64 (a7 + n) = a7 + n := by unfold wrap64; omega
      rw [w1, w2, concat_f _ (by simp; omega)]
      simp only [Option.bind_some]
      by_cases h00 : a0 = 0
      · rw [if_pos h00, if_pos h00, give_f _ _ (by simp; omega) (by omega) _ (by omega)]
        simp only [Option.bind_some]
        rw [append_f _ _ (by simp; omega) _ (by omega)]
        simp only [Option.bind_some]
        rw [if_pos (by simp; omega)]
        simp
      · rw [if_neg h00, if_neg h00, append_f _ _ (by simp; omega) _ (by omega)]
        simp only [Option.bind_some]
        rw [if_pos (by simp; omega)]
        simp
  · rw [decide_eq_false h, if_neg (by decide), if_neg (by simp [h])]; simp only [header_Write.j0]; rw [if_pos trivial]
theorem awake_f (k : Nat) (hk : 40 < k) : shibbolethlaw05_awake.f k = some true := by
  unfold shibbolethlaw05_awake.f
  rw [if_pos (by omega), write_f _ _ _ _ _ _ _ _ _ k hk, if_pos (by decide)]
  simp only [Option.bind_some]
  decide
end Go.Proofs.YtpihkmpcnkhnfaaDoor.HeP
namespace Go.Proofs.YtpihkmpcnkhnfaaDoor.HrP
open Go.RowKit Go.Proofs.YtpihkmpcnkhnfaaDoorW.PrintWords Go.Proofs.YtpihkmpcnkhnfaaDoor.Vn Go.Proofs.YtpihkmpcnkhnfaaDoor.Hr Go.Proofs.YtpihkmpcnkhnfaaDoor.HeP
set_option linter.unusedVariables false
set_option linter.unusedSimpArgs false
def Seg (l : List Int) (p : Nat) (s : List Int) : Prop := ∃ rest, l.drop p = s ++ rest
theorem Seg.le {l : List Int} {p : Nat} {s : List Int} (h : Seg l p s) (hp : p ≤ l.length) : p + s.length ≤ l.length := by
  obtain ⟨r, h⟩ := h
  have := congrArg List.length h
  simp at this
  omega
theorem Seg.next {l : List Int} {p : Nat} {s t : List Int} (h : Seg l p (s ++ t)) : Seg l (p + s.length) t := by
  obtain ⟨r, h⟩ := h
  refine ⟨r, ?_⟩
  rw [← List.drop_drop, h, List.append_assoc, List.drop_left]
theorem Seg.left {l : List Int} {p : Nat} {s t : List Int} (h : Seg l p (s ++ t)) : Seg l p s := by
  obtain ⟨r, h⟩ := h
  exact ⟨t ++ r, by rw [h, List.append_assoc]⟩
theorem Seg.take {l : List Int} {p : Nat} {s : List Int} (h : Seg l p s) : (l.drop p).take s.length = s := by
  obtain ⟨r, h⟩ := h
  rw [h, List.take_left]
theorem rdB_seg {l : List Int} {p : Nat} {s : List Int} (h : Seg l p s) (hp : p ≤ l.length) : rdB l p s.length = .ok (s, p + s.length) := by
  unfold rdB
  rw [if_pos (h.le hp), h.take]
theorem rdN_seg {l : List Int} {p : Nat} {s : List Int} (h : Seg l p s) (hp : p ≤ l.length) : rdN l p s.length = .ok (numF s, p + s.length) := by
  unfold rdN
  rw [if_pos (h.le hp), h.take]
theorem rdV_seg {l : List Int} {p : Nat} {n : Int} (h : Seg l p (vbytes n)) (h0 : 0 ≤ n) (h1 : n ≤ 4611686018427387903) : rdV l p = .ok (n, p + (vbytes n).length) := by
  obtain ⟨r, h⟩ := h
  unfold rdV
  rw [h, vread_vbytes n h0 h1 r, if_pos rfl]
  simp
theorem numF_big (n w : Int) (h1 : 1 ≤ w) (h4 : w ≤ 4) (h0 : 0 ≤ n) (hb : n < hbound w) : numF (hbig n w) = n ∧ ((hbig n w).length : Int) = w := by
  unfold hbound at hb
  unfold hbig
  obtain rfl | rfl | rfl | rfl : w = 1 ∨ w = 2 ∨ w = 3 ∨ w = 4 := by omega
  all_goals
    simp at hb ⊢
    simp [numF]
    omega
theorem numF_one (x : Int) : numF [x] = x := by simp [numF]
theorem rdC_seg {l : List Int} {p : Nat} {s : List Int} {m : Int} (h : Seg l p ((s.length : Int) :: s)) (hp : p ≤ l.length) (hm : (s.length : Int) ≤ m) : rdC (rdN l p 1) l m = .ok (s, p + (s.length + 1)) := by
  have h1 : Seg l p ([(s.length : Int)] ++ s) := h
  have h2 := rdN_seg h1.left hp
  have h3 := h1.left.le hp
  rw [List.length_singleton, numF_one] at h2
  rw [h2]
  show (if (s.length : Int) ≤ m then rdB l (p + 1) (s.length : Int).toNat else .error 4) = _
  rw [if_pos hm, Int.toNat_natCast]
  have h4 := rdB_seg h1.next (by simpa using h3)
  rw [List.length_singleton] at h4
  rw [h4, Nat.add_assoc, Nat.add_comm 1]
theorem rdCV_seg {l : List Int} {p : Nat} {s : List Int} {m : Int} (h : Seg l p (vbytes s.length ++ s)) (hp : p ≤ l.length) (hm : (s.length : Int) ≤ m) (hs : s.length ≤ 100000) : rdC (rdV l p) l m = .ok (s, p + ((vbytes s.length).length + s.length)) := by
  have h3 := h.left.le hp
  rw [rdV_seg h.left (by omega) (by omega)]
  show (if (s.length : Int) ≤ m then rdB l (p + (vbytes s.length).length) (s.length : Int).toNat else .error 4) = _
  rw [if_pos hm, Int.toNat_natCast, rdB_seg h.next h3, Nat.add_assoc]
theorem read_short (a5 a6 a7 : Int) (l2 rest : List Int) (h7 : 1 ≤ a7) (h7' : a7 ≤ 4) (h6 : 0 ≤ a6) (h6' : a6 < hbound a7) (h2 : l2.length = 8) (h5 : a5 = 0 ∨ a5 = 1) :
    hread ([63 + 4 * a5 + a7] ++ l2 ++ hbig a6 a7 ++ rest) = .ok ((3, 0, l2, [], [], a5, a6, a7), ([63 + 4 * a5 + a7] ++ l2 ++ hbig a6 a7).length, (([63 + 4 * a5 + a7] ++ l2 ++ hbig a6 a7 ++ rest).length : Int)) := by
  obtain ⟨l, hl⟩ : ∃ l, [63 + 4 * a5 + a7] ++ l2 ++ hbig a6 a7 ++ rest = l := ⟨_, rfl⟩
  have hb := numF_big a6 a7 h7 h7' h6 h6'
  have s0 : Seg l 0 ([63 + 4 * a5 + a7] ++ (l2 ++ hbig a6 a7)) := ⟨rest, by rw [← hl]; simp⟩
  have s1 := s0.next
  have s2 := s1.next
  have e0 := rdN_seg s0.left (Nat.zero_le _)
  have l0 := s0.left.le (Nat.zero_le _)
  have e1 := rdB_seg s1.left (by omega)
  have l1 := s1.left.le (by omega)
  have e2 := rdN_seg (s := hbig a6 a7) (by simpa using s2) (by simpa using l1)
  rw [hl]
  simp only [List.length_singleton, Nat.zero_add, numF_one] at e0 e1 e2
  rw [h2] at e1 e2
  rw [hb.1, show (hbig a6 a7).length = a7.toNat by omega] at e2
  unfold hread
  rw [e0]
  show (if 63 + 4 * a5 + a7 < 192 then hShort l (63 + 4 * a5 + a7) 1 else _) = _
  rw [if_pos (by omega)]
  unfold hShort
  rw [if_pos (by omega), e1]
  show (match rdN l (1 + 8) ((63 + 4 * a5 + a7) % 4 + 1).toNat with | .error e => _ | .ok (nm, p2) => _) = _
  rw [show (63 + 4 * a5 + a7) % 4 + 1 = a7 by omega, e2]
  show Except.ok ((3, 0, l2, [], [], (63 + 4 * a5 + a7) / 4 % 2, a6, a7), 1 + 8 + a7.toNat, (l.length : Int)) = _
  rw [show (63 + 4 * a5 + a7) / 4 % 2 = a5 by omega]
  have : ([63 + 4 * a5 + a7] ++ l2 ++ hbig a6 a7).length = 1 + 8 + a7.toNat := by simp [h2]; omega
  rw [this]
def lbytes (a0 a1 : Int) (l2 l3 l4 : List Int) (a6 a7 n : Int) : List Int :=
  [191 + 16 * a0 + a7] ++ (hbig a1 4 ++ (((l2.length : Int) :: l2) ++ (((l3.length : Int) :: l3) ++ ((if a0 = 0 then vbytes l4.length ++ l4 else []) ++ (vbytes (a7 + n) ++ hbig a6 a7)))))
theorem hbytes_long (a0 a1 : Int) (l2 l3 l4 : List Int) (a5 a6 a7 n : Int) (h : a0 ≠ 3) : hbytes a0 a1 l2 l3 l4 a5 a6 a7 n = lbytes a0 a1 l2 l3 l4 a6 a7 n := by
  unfold hbytes lbytes
  rw [if_neg h]
  simp
theorem head_part {a0 a7 : Int} (h0 : 0 ≤ a0) (h3 : a0 < 3) (h7 : 1 ≤ a7) (h7' : a7 ≤ 4) : ¬ (191 + 16 * a0 + a7 < 192) ∧ (191 + 16 * a0 + a7) / 4 % 4 = 0 ∧ (191 + 16 * a0 + a7) / 16 % 4 = a0 ∧ (191 + 16 * a0 + a7) % 4 + 1 = a7 := by omega
set_option maxHeartbeats 1000000 in
theorem read_long (a0 a1 a6 a7 n : Int) (l2 l3 l4 rest : List Int) (h0 : 0 ≤ a0) (h3 : a0 < 3) (h7 : 1 ≤ a7) (h7' : a7 ≤ 4) (h6 : 0 ≤ a6) (h6' : a6 < hbound a7) (h1 : 1 ≤ a1) (h1' : a1 ≤ 4294967295) (h2 : l2.length ≤ 20) (h3' : l3.length ≤ 20) (h4 : l4.length ≤ 64)
    (h40 : a0 = 0 ∨ l4.length = 0) (hn : 0 ≤ n) (hn' : n ≤ rest.length) (hr : rest.length ≤ 100000) :
    hread (lbytes a0 a1 l2 l3 l4 a6 a7 n ++ rest) = .ok ((a0, a1, l2, l3, l4, 0, a6, a7), (lbytes a0 a1 l2 l3 l4 a6 a7 n).length, ((lbytes a0 a1 l2 l3 l4 a6 a7 n).length : Int) + n) := by
  obtain ⟨l, hl⟩ : ∃ l, lbytes a0 a1 l2 l3 l4 a6 a7 n ++ rest = l := ⟨_, rfl⟩
  have hb := numF_big a6 a7 h7 h7' h6 h6'
  have hv := numF_big a1 4 (by decide) (by decide) (by omega) (by simp [hbound]; omega)
  have hv4 : (hbig a1 4).length = 4 := by have := hv.2; omega
  have s0 : Seg l 0 (lbytes a0 a1 l2 l3 l4 a6 a7 n) := ⟨rest, by rw [← hl]; simp⟩
  have hlen := congrArg List.length hl
  rw [List.length_append] at hlen
  unfold lbytes at s0
  obtain ⟨q0, q1, q2, q3⟩ := head_part h0 h3 h7 h7'
  have e0 := rdN_seg s0.left (Nat.zero_le _)
  have k0 := s0.left.le (Nat.zero_le _)
  have s1 := s0.next
  simp only [List.length_singleton, Nat.zero_add, numF_one] at e0 k0 s1
  have e1 := rdN_seg s1.left k0
  have k1 := s1.left.le k0
  have s2 := s1.next
  rw [hv4] at e1 k1 s2
  rw [hv.1] at e1
  have e2 := rdC_seg s2.left k1 (m := ((20 : Nat) : Int)) (by omega)
  have k2 := s2.left.le k1
  have s3 := s2.next
  simp only [List.length_cons] at e2 k2 s3
  have e3 := rdC_seg s3.left k2 (m := ((20 : Nat) : Int)) (by omega)
  have k3 := s3.left.le k2
  have s4 := s3.next
  simp only [List.length_cons] at e3 k3 s4
  rw [hl]
  unfold hread
  rw [e0]
  show (if 191 + 16 * a0 + a7 < 192 then _ else hLong l (191 + 16 * a0 + a7) 1) = _
  rw [if_neg q0]
  unfold hLong
  rw [if_pos ⟨q1, by omega⟩, q2, q3]
  unfold hS11
  rw [e1]
  show (if 0 < a1 then hS13 l a0 a1 a7 (1 + 4) else _) = _
  rw [if_pos (by omega)]
  unfold hS13
  rw [e2]
  show hS14 l a0 a1 l2 a7 (1 + 4 + (l2.length + 1)) = _
  unfold hS14
  rw [e3]
  show hS15 l a0 a1 l2 l3 a7 (1 + 4 + (l2.length + 1) + (l3.length + 1)) = _
  obtain ⟨p, hp⟩ : ∃ p, 1 + 4 + (l2.length + 1) + (l3.length + 1) = p := ⟨_, rfl⟩
  rw [hp] at s4 k3 ⊢
  clear e0 e1 e2 e3 s0 s1 s2 s3 k0 k1 k2
  have hw : (hbig a6 a7).length = a7.toNat := by omega
  have hL : (lbytes a0 a1 l2 l3 l4 a6 a7 n).length = p + (if a0 = 0 then vbytes l4.length ++ l4 else []).length + (vbytes (a7 + n)).length + a7.toNat := by
    unfold lbytes
    simp only [List.length_append, List.length_cons, List.length_nil, hv4, hw]
    omega
  have tok : ∃ q, hS15 l a0 a1 l2 l3 a7 p = hS17 l a0 a1 l2 l3 l4 a7 q ∧ q ≤ l.length ∧ Seg l q (vbytes (a7 + n) ++ hbig a6 a7) ∧ q + (vbytes (a7 + n)).length + a7.toNat = (lbytes a0 a1 l2 l3 l4 a6 a7 n).length := by
    by_cases hz : a0 = 0
    · rw [if_pos hz] at s4 hL
      have e4 := rdCV_seg s4.left k3 (m := ((64 : Nat) : Int)) (by omega) (by omega)
      have k4 := s4.left.le k3
      rw [List.length_append] at k4 hL
      refine ⟨p + ((vbytes l4.length).length + l4.length), ?_, by omega, by have := s4.next; rwa [List.length_append] at this, by omega⟩
      unfold hS15
      rw [if_pos hz, e4]
    · have h4' : l4 = [] := List.length_eq_zero_iff.1 (h40.resolve_left hz)
      rw [if_neg hz] at s4 hL
      rw [List.nil_append] at s4
      refine ⟨p, ?_, k3, s4, by simp at hL; omega⟩
      unfold hS15
      rw [if_neg hz, h4']
  obtain ⟨q, ht, hq, s5, hqL⟩ := tok
  rw [ht]
  have e5 := rdV_seg s5.left (by omega) (by omega)
  have k5 := s5.left.le hq
  have e6 := rdN_seg s5.next k5
  rw [hb.1, hw] at e6
  unfold hS17
  rw [e5]
  show (if a7 ≤ a7 + n then (if a7 + n ≤ (l.length : Int) - ((q + (vbytes (a7 + n)).length : Nat) : Int) then hS21 l a0 a1 l2 l3 l4 a7 (a7 + n) (q + (vbytes (a7 + n)).length) else .error 2) else .error 3) = _
  rw [if_pos (by omega), if_pos (by omega)]
  unfold hS21
  rw [e6]
  show Except.ok ((a0, a1, l2, l3, l4, 0, a6, a7), q + (vbytes (a7 + n)).length + a7.toNat, ((q + (vbytes (a7 + n)).length : Nat) : Int) + (a7 + n)) = _
  rw [hqL, show ((q + (vbytes (a7 + n)).length : Nat) : Int) + (a7 + n) = ((lbytes a0 a1 l2 l3 l4 a6 a7 n).length : Int) + n by omega]
theorem Seg.cut {l : List Int} {p k : Nat} {s : List Int} (h : Seg l p s) (hk : p + s.length ≤ k) : Seg (l.take k) p s := by
  obtain ⟨r, h⟩ := h
  refine ⟨r.take (k - p - s.length), ?_⟩
  rw [List.drop_take, h, List.take_append, List.take_of_length_le (by omega)]
end Go.Proofs.YtpihkmpcnkhnfaaDoor.HrP
namespace Go.Proofs.YtpihkmpcnkhnfaaDoor.QHc
open Go Go.RowKit Go.Proofs.YtpihkmpcnkhnfaaDoorW.PrintWords Go.Proofs.YtpihkmpcnkhnfaaDoorW.PrintLast Go.Proofs.YtpihkmpcnkhnfaaDoorW.PrintMore Go.Proofs.YtpihkmpcnkhnfaaDoor.QHe Go.Proofs.YtpihkmpcnkhnfaaDoor.HeP Go.Proofs.YtpihkmpcnkhnfaaDoor.Hr Go.Proofs.YtpihkmpcnkhnfaaDoor.HrP
set_option linter.unusedVariables false
set_option linter.unusedSimpArgs false
def Bt (l : List Int) : Prop := ∀ x ∈ l, 0 ≤ x ∧ x ≤ 255
instance (l : List Int) : Decidable (Bt l) := inferInstanceAs (Decidable (∀ x ∈ l, 0 ≤ x ∧ x ≤ 255))
def lightB (l2 l3 l4 : List Int) : Bool := decide ((l2.length : Int) ≤ 100 ∧ (l3.length : Int) ≤ 100 ∧ (l4.length : Int) ≤ 200)
theorem light_f (a0 a1 : Int) (l2 l3 l4 : List Int) (a5 a6 a7 : Int) : shibbolethlaw05_light.f a0 a1 l2 l3 l4 a5 a6 a7 = some (lightB l2 l3 l4) := by
 unfold shibbolethlaw05_light.f lightB
 repeat' split
 all_goals first | exact false_decide (by omega) | exact some_decide (by omega)
theorem of_f (a0 a1 : Int) (l2 l3 l4 : List Int) (a5 a6 a7 : Int) (h2 : l2.length ≤ 1000) (h3 : l3.length ≤ 1000) (h4 : l4.length ≤ 1000) : shibbolethlaw05_of.f a0 a1 l2 l3 l4 a5 a6 a7 = some (a0, a1, l2, l3, l4, a5, a6, a7) := by
 unfold shibbolethlaw05_of.f
 simp only [Option.bind_some, List.length_nil, List.nil_append]
 rw [if_pos (by omega), if_pos (by omega), if_pos (by omega)]
theorem hbig_bytes (n w : Int) (h : 0 ≤ n) : Bt (hbig n w) := by
 unfold hbig Bt
 intro x hx
 (repeat' split at hx) <;> simp at hx <;> omega
theorem hbytes_bt {a0 a1 : Int} {l2 l3 l4 : List Int} {a5 a6 a7 n : Int} (h : hright a0 a1 l2 l3 l4 a5 a6 a7) (h2 : Bt l2) (h3 : Bt l3) (h4 : Bt l4) (hn : 0 ≤ n) : Bt (hbytes a0 a1 l2 l3 l4 a5 a6 a7 n) := by
 unfold hright at h
 unfold hbytes
 have b6 := hbig_bytes a6 a7 (by omega)
 intro x hx
 by_cases hz : a0 = 3
 ·rw [if_pos hz] at hx
  simp only [List.mem_append, List.mem_cons, List.not_mem_nil, or_false] at hx
  rcases hx with (rfl | hx) | hx
  ·omega
  ·exact h2 x hx
  ·exact b6 x hx
 ·rw [if_neg hz] at hx
  have b1 := hbig_bytes a1 4 (by omega)
  have bv := Vn.vbytes_bytes (a7 + n)
  have bl := Vn.vbytes_bytes (l4.length : Int)
  simp only [List.mem_append, List.mem_cons, List.not_mem_nil, or_false] at hx
  rcases hx with (((((rfl | hx) | (rfl | hx)) | (rfl | hx)) | hx) | hx) | hx
  ·omega
  ·exact b1 x hx
  ·omega
  ·exact h2 x hx
  ·omega
  ·exact h3 x hx
  ·by_cases h0 : a0 = 0
   ·rw [if_pos h0] at hx
    rcases List.mem_append.1 hx with hx | hx
    ·exact bl x hx
    ·exact h4 x hx
   ·rw [if_neg h0] at hx; cases hx
  ·exact bv x hx
  ·exact b6 x hx
end Go.Proofs.YtpihkmpcnkhnfaaDoor.QHc
namespace Go.Proofs.YtpihkmpcnkhnfaaDoor.Hsi
open Go Go.RowKit Go.Shelf Go.Proofs.YtpihkmpcnkhnfaaDoorW.PrintWords Go.Proofs.YtpihkmpcnkhnfaaDoorW.PrintLast Go.Proofs.YtpihkmpcnkhnfaaDoorW.PrintMore
attribute [local go_sem] Oper.semAt_some
open Go.Proofs.YtpihkmpcnkhnfaaDoor.Hr (hread Flds read_good read_error ReadPost)
open Go.Proofs.YtpihkmpcnkhnfaaDoor.QHc (Bt)
open Go.Proofs.YtpihkmpcnkhnfaaDoor.HsP (pks hread_fin hread_err)
set_option linter.unusedVariables false
set_option linter.unusedSimpArgs false
abbrev Pk := Flds × List Int × List Int
theorem rows5 {wr w1 w2 w3 w4 : World} {s1 s2 s3 s4 : Nat} {u2 u3 u4 uh ub : Value} {x2 x3 x4 xh xb : List Int} (b1 : Below wr.heap.size wr w1) (d2 : Below w1.heap.size w1 w2) (b3 : Below w2.drew.heap.size w2.drew w3) (b4 : Below w3.heap.size w3 w4)
    (hq : wr.heap.size ≤ s1 ∧ s1 ≤ s2 ∧ s2 ≤ s3 ∧ s3 ≤ s4) (rr : Kd.R (Kd.int .u8) 5 w1 s1 (fun k => s1 ≤ k ∧ k < s2) u2 x2 ∧ Kd.R (Kd.int .u8) 5 w1 s2 (fun k => s2 ≤ k ∧ k < s3) u3 x3 ∧ Kd.R (Kd.int .u8) 5 w1 s3 (fun k => s3 ≤ k ∧ k < s4) u4 x4)
    (r3 : Kd.R (Kd.int .u8) 5 w3 w2.drew.heap.size (fun _ => True) uh xh) (r4 : Kd.R (Kd.int .u8) 5 w4 w3.heap.size (fun _ => True) ub xb) :
    Below wr.heap.size wr w4 ∧ ∀ (v : Value) (x : List Int), (v = u2 ∧ x = x2) ∨ (v = u3 ∧ x = x3) ∨ (v = u4 ∧ x = x4) ∨ (v = uh ∧ x = xh) ∨ (v = ub ∧ x = xb) → Kd.R (Kd.int .u8) 5 w4 wr.heap.size (fun _ => True) v x := by
  have dd : Below w2.heap.size w2 w2.drew := below_drew (Below.refl _ _)
  have c4 : Below w1.heap.size w1 w4 := below_step (below_step (below_step d2 dd) b3) b4
  have z1 := b1.size
  have z2 := d2.size
  have z3 := b3.size
  have z : w2.drew.heap.size = w2.heap.size := rfl
  refine ⟨below_step b1 c4, ?_⟩
  rintro v x (⟨rfl, rfl⟩ | ⟨rfl, rfl⟩ | ⟨rfl, rfl⟩ | ⟨rfl, rfl⟩ | ⟨rfl, rfl⟩)
  · exact Kd.R_lower (Kd.R_mono (Kd.R_below rr.1 c4) (fun _ _ => trivial)) (by omega)
  · exact Kd.R_lower (Kd.R_mono (Kd.R_below rr.2.1 c4) (fun _ _ => trivial)) (by omega)
  · exact Kd.R_lower (Kd.R_mono (Kd.R_below rr.2.2 c4) (fun _ _ => trivial)) (by omega)
  · exact Kd.R_lower (Kd.R_below r3 b4) (by omega)
  · exact Kd.R_lower r4 (by omega)
theorem box5 {w2 w3 w4 W' : World} {Bn t : Nat} {v : Value} (h : Boxed w2 Bn t v) (b3 : Below w2.drew.heap.size w2.drew w3) (b4 : Below w3.heap.size w3 w4) (hB : W'.heap[Bn]? = w4.heap[Bn]?) : Boxed W' Bn t v := by
  have h2 : Boxed w2.drew Bn t v := h
  have h3 : Boxed w3 Bn t v := (b3.block Bn h2.lt).trans h2
  have h4 : Boxed w4 Bn t v := (b4.block Bn h3.lt).trans h3
  exact hB.trans h4
set_option maxHeartbeats 4000000 in
set_option maxRecDepth 100000 in
theorem each_calls (l Bn : Nat) (w0 : World) (b : List Int) (hl : b.length ≤ 100000) (hB : Bt b) (J : List Pk → World → Prop) (Jx : List Pk → Int → World → Prop)
    (hJb : ∀ ms W W', J ms W → Below W.heap.size W W' → J ms W') (hJs : ∀ ms W v, J ms W → J ms (W.setCell ⟨Bn, 0, none⟩ v)) (hJ0 : ∀ ms W, J ms W → Below w0.heap.size w0 W) (hBn : w0.heap.size ≤ Bn)
    (hN : ∀ ms W e, e ≠ 0 → J ms W → YieldAt Fence.wide 1 Tryd.prog l #[.agg #[.int .i64 0, .int .i64 0, .slice none 0 0, .slice none 0 0, .slice none 0 0, .int .i64 0, .int .i64 0, .int .i64 0, .slice none 0 0, .slice none 0 0], .int .i64 e] W fun en W' => en = .returned (.bool false) ∧ Jx ms e W')
    (hG : ∀ ms W1 W (fl : Flds) (hd bd : List Int) (v2 v3 v4 vh vb : Value), ms.length < b.length → J ms W1 → Below W1.heap.size W1 W → (∀ (v : Value) (x : List Int), (v = v2 ∧ x = fl.2.2.1) ∨ (v = v3 ∧ x = fl.2.2.2.1) ∨ (v = v4 ∧ x = fl.2.2.2.2.1) ∨ (v = vh ∧ x = hd) ∨ (v = vb ∧ x = bd) → Kd.R (Kd.int .u8) 5 W W1.heap.size (fun _ => True) v x) →
      YieldAt Fence.wide 1 Tryd.prog l #[.agg #[.int .i64 fl.1, .int .i64 fl.2.1, v2, v3, v4, .int .i64 fl.2.2.2.2.2.1, .int .i64 fl.2.2.2.2.2.2.1, .int .i64 fl.2.2.2.2.2.2.2, vh, vb], .int .i64 0] W fun en W' => en = .returned (.bool true) ∧ J (ms ++ [(fl, hd, bd)]) W' ∧ W'.heap[Bn]? = W.heap[Bn]?)
    (W : World) (A : Option Addr) (c : Nat) (hbx : Boxed W Bn 22 (.slice A b.length c)) (hC : Kd.C (Kd.int .u8) w0 A b.length b) (hc : b.length ≤ c) (h0 : J [] W) :
    CallsIn Fence.wide 2 Tryd.prog 25 #[.func (.yield l) #[] #[], .pointer (some ⟨Bn, 0, none⟩)] W fun e W' => (∃ v, e = .returned v) ∧ (((pks (b.length + 1) b).2 = 0 ∧ J (pks (b.length + 1) b).1 W') ∨ ((pks (b.length + 1) b).2 ≠ 0 ∧ Jx (pks (b.length + 1) b).1 (pks (b.length + 1) b).2 W')) := by
  refine callsIn_of_wp Tryd.func25 rfl trivial ?_ rfl
  simp only [Tryd.ntmps25, List.size_toArray, List.length_cons, List.length_nil, Nat.reduceAdd, Nat.reduceSub, Array.replicate_succ, Array.replicate_zero, List.push_toArray, List.append_toArray, List.nil_append, List.cons_append]
  have BX := Aside0.mk hbx
  have HC := Aside0.mk hC
  have HJ := Aside0.mk h0
  have AN := Aside0.mk hN
  have AG := Aside0.mk hG
  have AB := Aside0.mk hJb
  have AS := Aside0.mk hJs
  have A0 := Aside0.mk hJ0
  have BB := Aside0.mk hB
  clear hbx hC h0 hN hG hJb hJs hJ0 hB
  gi_wp2
  gi_loopg [3, 4, 5, 6] b.length (fun gg v3 v4 v5 v6 wr => ∃ (ms : List Pk) (rest : List Int) (f : Nat) (A : Option Addr) (c : Nat), rest.length ≤ gg ∧ rest.length < f ∧ Aside0 (pks (b.length + 1) b = (ms ++ (pks f rest).1, (pks f rest).2)) ∧ Aside0 (J ms wr) ∧ Aside0 (Boxed wr Bn 22 (.slice A rest.length c)) ∧ Aside0 (Kd.C (Kd.int .u8) w0 A rest.length rest) ∧ rest.length ≤ c ∧ Aside0 (Bt rest) ∧ Aside0 (ms.length + rest.length ≤ b.length))
  case atStart => exact ⟨[], b, b.length + 1, A, c, Nat.le_refl _, by omega, ⟨by simp⟩, HJ, BX, HC, hc, BB, ⟨by simp⟩⟩
  case round =>
    obtain ⟨ms, rest, f, A', c', hg, hf, HP, HJ', BX', HC', hc', BB', HL⟩ := hrel
    clear HJ BX HC
    have hcell := BX'.out.cell
    by_cases he : rest = []
    · subst he
      have hcell : wr.cell? { block := Bn, off := 0 } = some (Value.slice A' 0 c') := hcell
      have HPn : Aside0 (pks (b.length + 1) b = (ms, 0)) := ⟨by rw [HP.out]; cases f <;> simp [pks]⟩
      clear hg hf HP BX' HC' hc' BB' HL
      gi_wp2
      go_end0
      exact ⟨⟨_, rfl⟩, .inl (by rw [HPn.out]; exact ⟨rfl, HJ'.out⟩)⟩
    · have hpos : 0 < rest.length := List.length_pos_iff.mpr he
      have p0 : decide ((0 : Int) < (rest.length : Int)) = true := decide_eq_true (by omega)
      have p1 : decide (0 < rest.length) = true := decide_eq_true hpos
      have HE := Aside0.mk he
      have HFF := Aside0.mk hf
      have HG := Aside0.mk hg
      have HC0 := Aside0.mk hc'
      have HPOS := Aside0.mk hpos
      obtain ⟨f', rfl⟩ : ∃ f', f = f' + 1 := ⟨f - 1, by omega⟩
      have HRL := Aside0.mk (show rest.length ≤ 100000 by have := HL.out; omega)
      clear he hf hg hc' hpos
      rcases hr : hread rest with er | ⟨fl, p, fin⟩
      · have HR := read_error wr A' c' rest (Kd.C_below HC'.out (A0.out _ _ HJ'.out)) HC0.out HRL.out BB'.out er hr
        have HPe : Aside0 (pks (b.length + 1) b = (ms, er)) := ⟨by rw [HP.out]; show (ms ++ (if rest = [] then (([] : List Pk), (0 : Int)) else match hread rest with | .error e => ([], e) | .ok (fl, p, fin) => _).1, (if rest = [] then (([] : List Pk), (0 : Int)) else match hread rest with | .error e => ([], e) | .ok (fl, p, fin) => _).2) = _; rw [if_neg HE.out, hr]; simp⟩
        have hne := hread_err hr
        have d3 : (er != 0) = true := by simpa using hne
        have HNE := Aside0.mk hne
        clear hr HP hne
        gi_wp2_with (first | (refine ⟨trivial, ?_⟩; gi_at_call 26; refine (callsIn_wide.2 HR).mono ?_; rintro e1 w1 ⟨rfl, hb1⟩; have B1 := Aside0.mk hb1; clear hb1))
        obtain ⟨fn, tm, asg, bd, hy, hR⟩ := AN.out ms (w1.alloc (.cells #[.int .i64 0, .int .i64 0, .slice none 0 0, .slice none 0 0, .slice none 0 0, .int .i64 0, .int .i64 0, .int .i64 0] 33)) er HNE.out (AB.out _ _ _ HJ'.out (below_alloc B1.out _))
        rw [hy]
        gi_wp2
        refine hR.mono ?_
        rintro e W' ⟨rfl, hx⟩
        gi_wp2
        refine bodyPost_ret (results_none rfl _ _ _) rfl ?_
        exact ⟨⟨_, rfl⟩, .inr (by rw [HPe.out]; exact ⟨HNE.out, hx⟩)⟩
      · have HR := read_good wr A' c' rest (Kd.C_below HC'.out (A0.out _ _ HJ'.out)) HC0.out HRL.out BB'.out fl p fin hr
        obtain ⟨hp1, hp2, hp3⟩ := hread_fin BB'.out hr
        obtain ⟨F, rfl⟩ := Int.eq_ofNat_of_zero_le (show 0 ≤ fin by omega)
        have HPF := Aside0.mk (show 1 ≤ p ∧ p ≤ F ∧ F ≤ rest.length by omega)
        obtain ⟨i05, hi5, _, hsz5, _⟩ := info_parts Hr.info5
        obtain ⟨hs4, hR4, hc4⟩ := print_take_of (P := Tryd.prog) (Value.int .u8) (0 : Int) 22 5 .i64 Tryd.underlying22 hi5 hsz5 A' c' rest (p : Int) (by omega) (by omega) HC0.out
        obtain ⟨A5, hs5, hR5, hc5⟩ := print_mid_of (P := Tryd.prog) (Value.int .u8) (0 : Int) 22 5 .i64 .i64 Tryd.underlying22 hi5 hsz5 A' c' rest (p : Int) (F : Int) (by omega) (by omega) (by omega) HC0.out
        simp only [Int.toNat_natCast] at hs4 hR4 hc4 hs5 hR5 hc5
        obtain ⟨A6, hs6, hR6, hc6⟩ := print_drop_of (P := Tryd.prog) (Value.int .u8) (0 : Int) 22 5 .i64 Tryd.underlying22 hi5 hsz5 A' c' rest (F : Int) (by omega) (by omega) HC0.out
        simp only [Int.toNat_natCast] at hs6 hR6 hc6
        obtain ⟨dr, edr⟩ : ∃ dr, rest.drop F = dr := ⟨_, rfl⟩
        rw [edr] at hs6 hR6 hc6
        have HC6 := Aside0.mk (show Kd.C (Kd.int .u8) w0 A6 dr.length dr from Kd.C_of_reads (h1 := fun _ => rfl) (hR6 _ (Kd.reads_of_C HC'.out)))
        have HCC6 := Aside0.mk hc6
        have HDr := Aside0.mk edr
        clear hR6 hc6 edr
        obtain ⟨hd, ehd⟩ : ∃ hd, rest.take p = hd := ⟨_, rfl⟩
        obtain ⟨bd, ebd⟩ : ∃ bd, (rest.take F).drop p = bd := ⟨_, rfl⟩
        rw [ehd] at hs4 hR4 hc4
        rw [ebd] at hs5 hR5 hc5
        have HC4 := Aside0.mk (show Kd.C (Kd.int .u8) w0 A' hd.length hd from Kd.C_of_reads (h1 := fun _ => rfl) (hR4 _ (Kd.reads_of_C HC'.out)))
        have HC5 := Aside0.mk (show Kd.C (Kd.int .u8) w0 A5 bd.length bd from Kd.C_of_reads (h1 := fun _ => rfl) (hR5 _ (Kd.reads_of_C HC'.out)))
        have HCC4 := Aside0.mk hc4
        have HCC5 := Aside0.mk hc5
        have HHd := Aside0.mk (And.intro ehd ebd)
        have HRR := Aside0.mk hr
        clear hi5 hsz5 hR4 hc4 hR5 hc5 ehd ebd hr hp1 hp2 hp3
        obtain ⟨kd, ver, tO, fr, tk, ph, nm, wd⟩ := fl
        gi_wp2_with (first | (refine ⟨trivial, ?_⟩; gi_at_call 26; refine (callsIn_wide.2 HR).mono ?_; rintro e1 w1 ⟨v2, v3, v4, rfl, ⟨s1, s2, s3, s4, q1, q2, q3, q4, r2, r3, r4⟩, hb1⟩; obtain ⟨E2, f2, rfl⟩ := Kd.R_slice r2; obtain ⟨E3, f3, rfl⟩ := Kd.R_slice r3; obtain ⟨E4, f4, rfl⟩ := Kd.R_slice r4; have RR := Aside0.mk (And.intro r2 (And.intro r3 r4)); have QQ := Aside0.mk (And.intro q1 (And.intro q2 (And.intro q3 q4))); have B1 := Aside0.mk hb1; clear hb1 r2 r3 r4 q1 q2 q3 q4))
        have SZ := (show (w1.alloc (.cells #[.int .i64 kd, .int .i64 ver, .slice E2 tO.length f2, .slice E3 fr.length f3, .slice E4 tk.length f4, .int .i64 ph, .int .i64 nm, .int .i64 wd] 33)).heap.size = w1.heap.size + 1 from World.size_alloc _ _)
        obtain ⟨w2, hw2⟩ : ∃ x, w1.alloc (.cells #[.int .i64 kd, .int .i64 ver, .slice E2 tO.length f2, .slice E3 fr.length f3, .slice E4 tk.length f4, .int .i64 ph, .int .i64 nm, .int .i64 wd] 33) = x := ⟨_, rfl⟩
        have x0 : w2.cell? ⟨w1.heap.size, 0, none⟩ = some (.int .i64 kd) := by rw [← hw2, World.cell?_alloc_at _ _ _ _ rfl]; rfl
        have x1 : w2.cell? ⟨w1.heap.size, 1, none⟩ = some (.int .i64 ver) := by rw [← hw2, World.cell?_alloc_at _ _ _ _ rfl]; rfl
        have x2 : w2.cell? ⟨w1.heap.size, 2, none⟩ = some (.slice E2 tO.length f2) := by rw [← hw2, World.cell?_alloc_at _ _ _ _ rfl]; rfl
        have x3 : w2.cell? ⟨w1.heap.size, 3, none⟩ = some (.slice E3 fr.length f3) := by rw [← hw2, World.cell?_alloc_at _ _ _ _ rfl]; rfl
        have x4 : w2.cell? ⟨w1.heap.size, 4, none⟩ = some (.slice E4 tk.length f4) := by rw [← hw2, World.cell?_alloc_at _ _ _ _ rfl]; rfl
        have x5 : w2.cell? ⟨w1.heap.size, 5, none⟩ = some (.int .i64 ph) := by rw [← hw2, World.cell?_alloc_at _ _ _ _ rfl]; rfl
        have x6 : w2.cell? ⟨w1.heap.size, 6, none⟩ = some (.int .i64 nm) := by rw [← hw2, World.cell?_alloc_at _ _ _ _ rfl]; rfl
        have x7 : w2.cell? ⟨w1.heap.size, 7, none⟩ = some (.int .i64 wd) := by rw [← hw2, World.cell?_alloc_at _ _ _ _ rfl]; rfl
        have D2 := Aside0.mk (show Below w1.heap.size w1 w2 by rw [← hw2]; exact below_alloc (Below.refl _ _) _)
        have BX2 := Aside0.mk (show Boxed w2 Bn 22 (.slice A' rest.length c') by rw [← hw2]; exact Boxed.alloc (show Boxed w1 Bn 22 (.slice A' rest.length c') from (B1.out.block Bn BX'.out.lt).trans BX'.out) _)
        rw [hw2] at SZ ⊢
        have b0 := BX2.out.cell
        obtain ⟨hb, ehb⟩ : ∃ hb, w1.heap.size = hb := ⟨_, rfl⟩
        rw [ehb] at x0 x1 x2 x3 x4 x5 x6 x7 ⊢
        have BL2 := Aside0.mk (below_step (A0.out _ _ HJ'.out) (below_step B1.out D2.out))
        have CL1 := Aside0.mk (Gv.slices_Clone_byte_byte.calls A' c' hd hd w2.drew (Kd.C_below HC4.out (below_drew BL2.out)) HCC4.out (by unfold Gv.slices_Clone_byte_byte.f; exact if_pos (by have h1 := HHd.out.1; have h2 := HRL.out; rw [← h1]; simp; omega)))
        have CL2 := Aside0.mk (fun (W : World) (hb : Below w2.drew.heap.size w2.drew W) => Gv.slices_Clone_byte_byte.calls A5 (c' - p) bd bd W (Kd.C_below HC5.out (below_step (below_drew BL2.out) hb)) HCC5.out (by unfold Gv.slices_Clone_byte_byte.f; exact if_pos (by have h1 := HHd.out.2; have h2 := HRL.out; rw [← h1]; simp; omega)))
        have hfm : Tryd.prog.follows .mixedOrders = true := by kernel_rfl
        clear hw2 SZ hcell HR
        gi_region_with_o (first
          | (refine ⟨trivial, ?_⟩; gi_at_call 27; refine (callsIn_wide.2 CL1.out).mono ?_; rintro e3 w3 ⟨vh, rfl, hR3, hb3⟩; obtain ⟨Ah, ch, rfl⟩ := Kd.R_slice hR3; have R3 := Aside0.mk hR3; have B3 := Aside0.mk hb3; have y0 := pw_cell_below hb3 ((World.cell?_drew _ _).trans x0); have y1 := pw_cell_below hb3 ((World.cell?_drew _ _).trans x1); have y2 := pw_cell_below hb3 ((World.cell?_drew _ _).trans x2); have y3 := pw_cell_below hb3 ((World.cell?_drew _ _).trans x3); have y4 := pw_cell_below hb3 ((World.cell?_drew _ _).trans x4); have y5 := pw_cell_below hb3 ((World.cell?_drew _ _).trans x5); have y6 := pw_cell_below hb3 ((World.cell?_drew _ _).trans x6); have y7 := pw_cell_below hb3 ((World.cell?_drew _ _).trans x7); have y8 := pw_cell_below hb3 ((World.cell?_drew _ _).trans b0); clear hR3 hb3)
          | (refine ⟨trivial, ?_⟩; gi_at_call 27; refine (callsIn_wide.2 (CL2.out _ B3.out)).mono ?_; rintro e4 w4 ⟨vb, rfl, hR4, hb4⟩; obtain ⟨Ab, cb, rfl⟩ := Kd.R_slice hR4; have R4 := Aside0.mk hR4; have B4 := Aside0.mk hb4; have z0 := pw_cell_below hb4 y0; have z1 := pw_cell_below hb4 y1; have z2 := pw_cell_below hb4 y2; have z3 := pw_cell_below hb4 y3; have z4 := pw_cell_below hb4 y4; have z5 := pw_cell_below hb4 y5; have z6 := pw_cell_below hb4 y6; have z7 := pw_cell_below hb4 y7; clear hR4 hb4)
          | (refine hRd.mono ?_; rintro e5 W' ⟨rfl, hJn, hBn'⟩; have HJn := Aside0.mk hJn; have HBnn := Aside0.mk hBn'; clear hJn hBn')
          | (obtain ⟨fn, tm, asg, bdy, hy, hRd⟩ := AG.out ms wr w4 (kd, ver, tO, fr, tk, ph, nm, wd) hd bd (.slice E2 tO.length f2) (.slice E3 fr.length f3) (.slice E4 tk.length f4) (.slice Ah hd.length ch) (.slice Ab bd.length cb) (by have h1 := HL.out; have h2 := HPOS.out; omega) HJ'.out (rows5 B1.out D2.out B3.out B4.out QQ.out RR.out R3.out R4.out).1 (rows5 B1.out D2.out B3.out B4.out QQ.out RR.out R3.out R4.out).2; rw [hy]))
        all_goals
          have BXW := Aside0.mk (box5 BX2.out B3.out B4.out HBnn.out)
          have cW := BXW.out.cell
          have fW := BXW.out.frozen
          clear x0 x1 x2 x3 x4 x5 x6 x7 b0 y0 y1 y2 y3 y4 y5 y6 y7 y8 z0 z1 z2 z3 z4 z5 z6 z7
          gi_wp2
          gi_roundg dr.length
          case measure => have h1 := HG.out; have h2 := HPF.out; have h3 := HDr.out; rw [← h3]; simp; omega
          case rel =>
            have hlen : dr.length = rest.length - F := by rw [← HDr.out]; simp
            refine ⟨ms ++ [((kd, ver, tO, fr, tk, ph, nm, wd), hd, bd)], dr, f', A6, c' - F, Nat.le_refl _, ?_, ⟨?_⟩, ⟨AS.out _ _ _ HJn.out⟩, ⟨BXW.out.set _⟩, HC6, HCC6.out, ⟨?_⟩, ⟨?_⟩⟩
            · have := HFF.out; have := HPF.out; omega
            · rw [HP.out]
              show (ms ++ (if rest = [] then (([] : List Pk), (0 : Int)) else match hread rest with | .error e => ([], e) | .ok (fl, p, fin) => ((fl, rest.take p, (rest.take fin.toNat).drop p) :: (pks f' (rest.drop fin.toNat)).1, (pks f' (rest.drop fin.toNat)).2)).1, (if rest = [] then (([] : List Pk), (0 : Int)) else match hread rest with | .error e => ([], e) | .ok (fl, p, fin) => ((fl, rest.take p, (rest.take fin.toNat).drop p) :: (pks f' (rest.drop fin.toNat)).1, (pks f' (rest.drop fin.toNat)).2)).2) = _
              rw [if_neg HE.out, HRR.out]
              simp only [Int.toNat_natCast, HHd.out.1, HHd.out.2, HDr.out]
              simp
            · rw [← HDr.out]; exact fun y hy => BB'.out y (List.mem_of_mem_drop hy)
            · have := HL.out; have := HPF.out; simp; omega
end Go.Proofs.YtpihkmpcnkhnfaaDoor.Hsi
namespace Go.Proofs.YtpihkmpcnkhnfaaDoor.Rng
open Go Go.RowKit Go.Shelf
set_option linter.unusedVariables false
structure RecOf (rec : LoopState → Option Code → Loop) (fn : FuncId) (tmps : Array Value) (ps : Array Tmp) (assign body : Code) : Prop where
  state : ∀ st pe, (rec st pe).state = st
  pending : ∀ st pe, (rec st pe).pending = pe
  fn_ : ∀ st pe, (rec st pe).fn = fn
  tmps_ : ∀ st pe, (rec st pe).tmps = tmps
  params : ∀ st pe, (rec st pe).params = ps
  assign_ : ∀ st pe, (rec st pe).assign = assign
  body_ : ∀ st pe, (rec st pe).body = body
  setS : ∀ st pe st', { rec st pe with state := st' } = rec st' pe
  setP : ∀ st pe st' pe', { rec st pe with state := st', pending := pe' } = rec st' pe'
section
variable {rec : LoopState → Option Code → Loop} {fn : FuncId} {tmps : Array Value} {ps : Array Tmp} {assign body : Code} {P : Program} {W : World} {l : Nat}
theorem RecOf.yield (h : RecOf rec fn tmps ps assign body) {args : Array Value} (hl : W.heap[l]? = some (.loop (rec .ready none))) (hs : args.size = ps.size) :
    (Instr.yield l args).run P W = .ok (.round l fn ((ps.zip args).foldl (fun t (p, v) => t.setIfInBounds p v) tmps) assign body) W := by
  have h1 := run_yield (P := P) (args := args) hl (by rw [h.params]; exact hs)
  rw [h.fn_, h.params, h.tmps_, h.assign_, h.body_] at h1
  exact h1
theorem RecOf.begin_ (h : RecOf rec fn tmps ps assign body) (hl : W.heap[l]? = some (.loop (rec .ready none))) :
    (Instr.beginRound l).run P W = .ok () (W.putObj l (.loop (rec .busy none))) := by
  have h1 := run_beginRound (P := P) hl (h.state _ _)
  rw [h.setS] at h1
  exact h1
theorem RecOf.end_ (h : RecOf rec fn tmps ps assign body) (jump : Option Code) (hl : W.heap[l]? = some (.loop (rec .busy none))) :
    (Instr.endRound l jump).run P W = .ok (.bool jump.isNone) (W.putObj l (.loop (rec (if jump.isNone then .ready else .done) jump))) := by
  have h1 := run_endRound (P := P) jump hl
  rw [h.setP] at h1
  exact h1
theorem RecOf.endLoop (h : RecOf rec fn tmps ps assign body) {st : LoopState} {pe : Option Code} (hl : W.heap[l]? = some (.loop (rec st pe))) (hs : st ≠ .busy) :
    (Instr.endLoop l).run P W = .ok pe (W.putObj l (.loop (rec .exhausted pe))) := by
  have h1 := run_endLoop (P := P) hl (by rw [h.state]; exact hs)
  rw [h.setS, h.pending] at h1
  exact h1
end
theorem open_range {F : Fence} {n : Nat} {P : Program} {g : Operand} {ps : Array Tmp} {assign body : Code} {Q : Exit → Act → World → Prop} {a : Act} {w : World} {gf : Nat} {lb : Array Value} (hro : F.round = none) (h1 : 1 ≤ n) (hF : F.fn gf)
    (hg : a.eval g = .func (.func gf) #[] lb) (eg : ∀ args w, (callFunc gf args).run P w = .ok (.enter gf args) w)
    (h : ∀ (fn : FuncId) (rec : LoopState → Option Code → Loop) (W1 : World), F.fn fn → RecOf rec fn a.tmps ps assign body → W1 = (w.alloc (.deferred (some []))).alloc (.loop (rec .ready none)) → CallsIn F (n - 1) P gf (#[.func (.yield (w.heap.size + 1)) #[] #[]] ++ lb) W1
      (rangePost F n P (w.heap.size + 1) Q { a with defers := [{ target := .collected w.heap.size, args := #[] }] ++ a.defers })) :
    (Code.rangeFunc g ps assign body).wpIn F n P Q a w := by
  refine wpIn_rangeFunc ?_
  intro fn hfn
  rw [hro]
  obtain ⟨rec, hrec⟩ : ∃ rec : LoopState → Option Code → Loop, rec = fun st pe => { state := st, pending := pe, fn := fn, tmps := a.tmps, params := ps, assign := assign, body := body, defers := w.heap.size } := ⟨_, rfl⟩
  obtain ⟨W1, hW1⟩ : ∃ W1, (w.alloc (.deferred (some []))).alloc (.loop (rec .ready none)) = W1 := ⟨_, rfl⟩
  refine ⟨w.heap.size + 1, [{ target := .collected w.heap.size, args := #[] }], W1, { target := .fn (.func gf) lb, args := #[.func (.yield (w.heap.size + 1)) #[] #[]] }, W1, gf,
    #[.func (.yield (w.heap.size + 1)) #[] #[]] ++ lb, W1, ?_, ?_, ?_, ?_, fun _ => h1, ?_⟩
  rotate_left 4
  · refine h fn rec W1 hfn ?_ hW1.symm
    rw [hrec]
    exact ⟨fun _ _ => rfl, fun _ _ => rfl, fun _ _ => rfl, fun _ _ => rfl, fun _ _ => rfl, fun _ _ => rfl, fun _ _ => rfl, fun _ _ _ => rfl, fun _ _ _ _ => rfl⟩
  · rw [← hW1, hrec]; exact run_enterLoop_outer _ _ _ _ _
  · simp only [resolve, hg]
    simp [go_sem]
  · intro f' hf'
    simp [Target.leads] at hf'
    subst hf'
    exact hF
  · simp [invoke, go_sem, eg]
end Go.Proofs.YtpihkmpcnkhnfaaDoor.Rng
namespace Go.Proofs.YtpihkmpcnkhnfaaDoor.Hsi
open Go Go.RowKit Go.Shelf Go.Proofs.YtpihkmpcnkhnfaaDoorW.PrintWords Go.Proofs.YtpihkmpcnkhnfaaDoorW.PrintLast Go.Proofs.YtpihkmpcnkhnfaaDoorW.PrintMore
attribute [local go_sem] Oper.semAt_some
open Go.Proofs.YtpihkmpcnkhnfaaDoor.Onl (Only)
open Go.Proofs.YtpihkmpcnkhnfaaDoor.Hr (hread Flds)
open Go.Proofs.YtpihkmpcnkhnfaaDoor.QHc (Bt)
open Go.Proofs.YtpihkmpcnkhnfaaDoor.HsP (pks hread_fin hread_err)
open Go.Proofs.YtpihkmpcnkhnfaaDoor.Rng
set_option linter.unusedVariables false
set_option linter.unusedSimpArgs false
abbrev KB : Kd (List Int) := Kd.slice 5 (Kd.int .u8)
def kP : Kd Pk := Kd.iso (Kd.pair (Kd.int .i64) (Kd.pair (Kd.int .i64) (Kd.pair KB (Kd.pair KB (Kd.pair KB (Kd.pair (Kd.int .i64) (Kd.pair (Kd.int .i64) (Kd.pair (Kd.int .i64) (Kd.pair KB KB)))))))))
  (fun x : Pk => (x.1.1, x.1.2.1, x.1.2.2.1, x.1.2.2.2.1, x.1.2.2.2.2.1, x.1.2.2.2.2.2.1, x.1.2.2.2.2.2.2.1, x.1.2.2.2.2.2.2.2, x.2.1, x.2.2))
theorem kP_mkM (w : World) (base : Nat) (ok : Nat → Prop) (x : Pk) {v2 v3 v4 vh vb : Value} (g2 : (Kd.int .u8).R 5 w base ok v2 x.1.2.2.1) (g3 : (Kd.int .u8).R 5 w base ok v3 x.1.2.2.2.1) (g4 : (Kd.int .u8).R 5 w base ok v4 x.1.2.2.2.2.1) (gh : (Kd.int .u8).R 5 w base ok vh x.2.1) (gb : (Kd.int .u8).R 5 w base ok vb x.2.2) :
    kP.M w base ok x [.int .i64 x.1.1, .int .i64 x.1.2.1, v2, v3, v4, .int .i64 x.1.2.2.2.2.2.1, .int .i64 x.1.2.2.2.2.2.2.1, .int .i64 x.1.2.2.2.2.2.2.2, vh, vb] :=
  ⟨[_], _, rfl, rfl, [_], _, rfl, rfl, [_], _, rfl, ⟨v2, rfl, g2⟩, [_], _, rfl, ⟨v3, rfl, g3⟩, [_], _, rfl, ⟨v4, rfl, g4⟩, [_], _, rfl, rfl, [_], _, rfl, rfl, [_], _, rfl, rfl, [_], [_], rfl, ⟨vh, rfl, gh⟩, ⟨vb, rfl, gb⟩⟩
abbrev KS := Kd.S kP 35
theorem info82 : (Tryd.prog.info? 35).map (fun i => (i.zero, i.size, i.bytes)) = some (some (.agg #[.int .i64 0, .int .i64 0, .slice none 0 0, .slice none 0 0, .slice none 0 0, .int .i64 0, .int .i64 0, .int .i64 0, .slice none 0 0, .slice none 0 0]), 10, 160) := by kernel_rfl
theorem R_append_in {F : Fence} {nF : Nat} {P : Program} {ops : Array Oper} {rest : List Oper} {o : Oper} {a : Act} {Q : Exit → Act → World → Prop} {α : Type} (d : Kd α) {W : World} (base : Nat) (hgd : o.guard = none) (s x : Operand) (t e : TypeId) (z : Value) (bytes : Nat)
    (ho : o.op = .call { callee := .builtin .append, args := #[s, x], argTypes := #[t, t] })
    (ht : P.underlying t = some (.slice e)) (hinfo : (P.info? e).map (fun i => (i.zero, i.size, i.bytes)) = some (some z, d.sz, bytes)) (hz : z.cells.size = d.sz) (hs0 : 0 < d.sz) (hb0 : 0 < bytes)
    (v : Value) (xs : List α) (p : α) (cs : List Value) (ok okp : Nat → Prop) (hs : a.eval s = v) (hx : a.eval x = .slice (some ⟨W.heap.size, 0, none⟩) 1 1) (hp : d.M W base okp p cs) (hokp : ∀ k, okp k → ok k ∧ some k ≠ v.ownBlock) (hfresh : ∀ k, W.heap.size ≤ k → ok k)
    (HO : d.R e W base ok v xs) (hbase : base ≤ W.heap.size) (hl : (xs.length + 1) * bytes ≤ 140737488355328)
    (h : ∀ v1 w1, d.R e w1 base ok v1 (xs ++ [p]) → W.grownBy w1 v.ownBlock → wpListIn F nF P ops Q rest (a.put o.dst v1) w1) :
    wpListIn F nF P ops Q (o :: rest) a (W.alloc (.cells cs.toArray e)) := by
  obtain ⟨h0, inner, hown, hr⟩ := HO
  have hys := d.K_len (d.K_of_M hp)
  have h1 := d.K_one (d.K_of_M hp)
  obtain ⟨i0, hi, hzz⟩ := Option.map_eq_some_iff.1 hinfo
  simp only [Prod.mk.injEq] at hzz
  obtain ⟨hz0, hz1, hz2⟩ := hzz
  have hlen : xs.length + 1 ≤ 140737488355328 := Nat.le_trans (Nat.le_mul_of_pos_right _ hb0) hl
  refine wpListIn_append_own_at (W.alloc (.cells cs.toArray e)) hgd s x t ho base e i0 z d.sz bytes ht hi hz0 hz1 hz2 hz hs0 v xs.length inner hs (hown.alloc _) ⟨W.heap.size, 0, none⟩ 1 1 cs hx (by rw [hys]; simp)
    (by simpa using World.news_of_block (cs := cs.toArray) (t := e) (fr := (0, 0)) (heap_alloc_new W (.cells cs.toArray e))) h1 (by simp only [maxLen]; omega) hl (by simp; omega) ?_
  intro v1 w1 hown1 hg1 _ hat
  have hg : W.grownBy w1 v.ownBlock := World.grownBy.trans (World.grownBy_alloc W _ _) hg1
  refine h v1 w1 (Kd.R_appended h0 hr hp hokp hfresh hown1 hg ?_) hg
  rcases hat with hat | hat
  · exact .inl hat
  · exact .inr ⟨_, hat, by simp⟩
theorem S_append_in {F : Fence} {nF : Nat} {P : Program} {ops : Array Oper} {rest : List Oper} {o : Oper} {a : Act} {Q : Exit → Act → World → Prop} {α : Type} (d : Kd α) {W : World} (base : Nat) (hgd : o.guard = none) (s x : Operand) (t e : TypeId) (z : Value) (bytes : Nat)
    (ho : o.op = .call { callee := .builtin .append, args := #[s, x], argTypes := #[t, t] })
    (ht : P.underlying t = some (.slice e)) (hinfo : (P.info? e).map (fun i => (i.zero, i.size, i.bytes)) = some (some z, d.sz, bytes)) (hz : z.cells.size = d.sz) (hs0 : 0 < d.sz) (hb0 : 0 < bytes)
    (v : Value) (xs : List α) (p : α) (cs : List Value) (ok okp : Nat → Prop) (hs : a.eval s = v) (hx : a.eval x = .slice (some ⟨W.heap.size, 0, none⟩) 1 1) (hp : d.M W base okp p cs) (hokp : ∀ k, okp k → ok k ∧ some k ≠ v.ownBlock) (hfresh : ∀ k, W.heap.size ≤ k → ok k)
    (HO : Kd.S d e W base (fun k => ok k ∧ ¬ okp k) v xs) (hbase : base ≤ W.heap.size) (hl : (xs.length + 1) * bytes ≤ 140737488355328)
    (h : ∀ v1 w1, Kd.S d e w1 base ok v1 (xs ++ [p]) → W.grownBy w1 v.ownBlock → wpListIn F nF P ops Q rest (a.put o.dst v1) w1) :
    wpListIn F nF P ops Q (o :: rest) a (W.alloc (.cells cs.toArray e)) := by
  obtain ⟨f, hf, hR⟩ := Kd.S_tag HO xs.length okp (fun _ hk h2 => h2.2 hk)
  refine R_append_in (Kd.tag f d) base hgd s x t e z bytes ho ht hinfo hz hs0 hb0 v xs.zipIdx (p, xs.length) cs ok okp hs hx (d.M_mono (fun k hk => ⟨hk, hf k hk⟩) hp) hokp hfresh (Kd.R_mono hR (fun _ hk => hk.1)) hbase (by rw [List.length_zipIdx]; exact hl) ?_
  intro v1 w1 hr
  rw [← Kd.zip_snoc] at hr
  exact h v1 w1 ⟨f, hr⟩
structure Om (w : World) (H1 D E : Nat) (v : Value) (ms : List Pk) (W : World) : Prop where
  bl : Below w.heap.size w W
  r0 : Boxed W w.heap.size 23 v
  r1 : Boxed W H1 24 (.int .i64 0)
  R : KS W E (fun _ => True) v ms
  df : W.heap[D]? = some (.deferred (some []))
  sz : E ≤ W.heap.size
theorem boxed_only {p : Nat → Prop} {W W' : World} {B t : Nat} {u : Value} (h : Boxed W B t u) (ho : Only p W W') (hp : ¬ p B) : Boxed W' B t u := (ho.block B h.lt hp).trans h
theorem R_only {α : Type} {d : Kd α} {e base : Nat} {p : Nat → Prop} {W W' : World} {v : Value} {xs : List α} (h : d.R e W base (fun _ => True) v xs) (ho : Only p W W') (hp : ∀ k, p k → k < base) : d.R e W' base (fun _ => True) v xs :=
  Kd.R_mono (Kd.R_move (Kd.R_bound h) (fun k hk => ho.block k hk.2.2.1 (fun q => by have := hp k q; have := hk.2.1; omega))) (fun _ _ => trivial)
theorem S_only {α : Type} {d : Kd α} {e base : Nat} {p : Nat → Prop} {W W' : World} {v : Value} {xs : List α} (h : Kd.S d e W base (fun _ => True) v xs) (ho : Only p W W') (hp : ∀ k, p k → k < base) : Kd.S d e W' base (fun _ => True) v xs :=
  Kd.S_mono (Kd.S_move (Kd.S_bound h) (fun k hk => ho.block k hk.2.2.1 (fun q => by have := hp k q; have := hk.2.1; omega))) (fun _ _ => trivial)
theorem S_old {α : Type} {d : Kd α} {e base : Nat} {p : Nat → Prop} {W W' : World} {v : Value} {xs : List α} (h : Kd.S d e W base (fun _ => True) v xs) (ho : Only p W W') (hp : ∀ k, p k → k < base) : Kd.S d e W' base (fun k => True ∧ ¬ (W.heap.size ≤ k)) v xs :=
  Kd.S_mono (Kd.S_move (Kd.S_bound h) (fun k hk => ho.block k hk.2.2.1 (fun q => by have := hp k q; have := hk.2.1; omega))) (fun _ hk => ⟨trivial, by have := hk.2.2.1; omega⟩)
theorem Om.only {w : World} {H1 D E : Nat} {v : Value} {ms : List Pk} {W W' : World} (h : Om w H1 D E v ms W) (lay : w.heap.size < H1 ∧ H1 < D ∧ D < E) {p : Nat → Prop} (ho : Only p W W') (hp : ∀ k, p k → H1 < k ∧ k ≠ D ∧ k < E) : Om w H1 D E v ms W' := by
  have hn : ∀ k, k ≤ H1 → ¬ p k := fun k hk q => by have := hp k q; omega
  exact ⟨h.bl.trans (ho.below h.bl.size (fun k q => by have := hp k q; omega)), boxed_only h.r0 ho (hn _ (by omega)), boxed_only h.r1 ho (hn _ (by omega)),
    S_only h.R ho (fun k q => (hp k q).2.2), (ho.block D (by have := h.sz; omega) (fun q => (hp D q).2.1 rfl)).trans h.df, Nat.le_trans h.sz ho.size⟩
theorem only_putObj (W : World) (l : Nat) (o : Obj) : Only (fun k => k = l) W (W.putObj l o) :=
  ⟨rfl, rfl, rfl, by simp, fun k _ hk => World.putObj_heap_other hk⟩
theorem only_setCell (W : World) (b : Nat) (v : Value) : Only (fun k => k = b) W (W.setCell ⟨b, 0, none⟩ v) := (Only.refl (fun k => k = b) W).setCell (ad := ⟨b, 0, none⟩) rfl v
end Go.Proofs.YtpihkmpcnkhnfaaDoor.Hsi
namespace Go.Proofs.YtpihkmpcnkhnfaaDoor.Hsi
open Go Go.RowKit Go.Shelf Go.Proofs.YtpihkmpcnkhnfaaDoorW.PrintWords Go.Proofs.YtpihkmpcnkhnfaaDoorW.PrintLast Go.Proofs.YtpihkmpcnkhnfaaDoorW.PrintMore
attribute [local go_sem] Oper.semAt_some
open Go.Proofs.YtpihkmpcnkhnfaaDoor.Onl (Only)
open Go.Proofs.YtpihkmpcnkhnfaaDoor.Hr (hread Flds)
open Go.Proofs.YtpihkmpcnkhnfaaDoor.QHc (Bt)
open Go.Proofs.YtpihkmpcnkhnfaaDoor.HsP (pks hread_fin hread_err)
open Go.Proofs.YtpihkmpcnkhnfaaDoor.Rng
set_option linter.unusedVariables false
set_option linter.unusedSimpArgs false
theorem maker_calls (w : World) (A : Option Addr) (n c : Nat) :
    Calls Tryd.prog 13 #[.slice A n c] w fun e w' => e = .returned (.func (.func 25) #[] #[.pointer (some ⟨w.heap.size, 0, none⟩)]) ∧ w' = w.alloc (.cells #[.slice A n c] 22) := by
  have hmf : ∀ (fn : Fn) (first cap : Array Value) (w : World), (Instr.makeFunc fn first cap).run Tryd.prog w = .ok (.func fn first cap) w := fun _ _ _ _ => rfl
  go_enter Tryd.func13, Tryd.ntmps13
  go_wp2
  go_ret
  exact ⟨rfl, rfl⟩
end Go.Proofs.YtpihkmpcnkhnfaaDoor.Hsi
namespace Go.Proofs.YtpihkmpcnkhnfaaDoor.Hsi
open Go Go.RowKit Go.Shelf Go.Proofs.YtpihkmpcnkhnfaaDoorW.PrintWords Go.Proofs.YtpihkmpcnkhnfaaDoorW.PrintLast Go.Proofs.YtpihkmpcnkhnfaaDoorW.PrintMore
attribute [local go_sem] Oper.semAt_some
open Go.Proofs.YtpihkmpcnkhnfaaDoor.Onl (Only)
open Go.Proofs.YtpihkmpcnkhnfaaDoor.Hr (hread Flds)
open Go.Proofs.YtpihkmpcnkhnfaaDoor.QHc (Bt)
open Go.Proofs.YtpihkmpcnkhnfaaDoor.HsP (pks hread_fin hread_err)
open Go.Proofs.YtpihkmpcnkhnfaaDoor.Rng
set_option linter.unusedVariables false
set_option linter.unusedSimpArgs false
theorem Om.grown {w : World} {H1 D E : Nat} {v v1 : Value} {ms : List Pk} {m : Pk} {W w1 : World} (h : Om w H1 D E v ms W) (lay : w.heap.size < H1 ∧ H1 < D ∧ D < E) (hR : KS w1 E (fun _ => True) v1 (ms ++ [m])) (hg : W.grownBy w1 v.ownBlock) :
    Boxed w1 w.heap.size 23 v ∧ Om w H1 D E v1 (ms ++ [m]) (w1.setCell ⟨w.heap.size, 0, none⟩ v1) ∧ ∀ k, k < E → k ≠ w.heap.size → (w1.setCell ⟨w.heap.size, 0, none⟩ v1).heap[k]? = W.heap[k]? := by
  have hne : ∀ k, k < E → some k ≠ v.ownBlock := fun k hk e => by have := Kd.S_base h.R k e.symm; omega
  have ho : Only (fun k => E ≤ k) W w1 := (Only.refl _ W).grown hg (fun k e => .inl (Kd.S_base h.R k e))
  have hb1 : Boxed w1 w.heap.size 23 v := boxed_only h.r0 ho (by omega)
  have hs := only_setCell w1 w.heap.size v1
  have hn : ∀ k, k < E → k ≠ w.heap.size → (w1.setCell ⟨w.heap.size, 0, none⟩ v1).heap[k]? = W.heap[k]? := fun k hk hk2 =>
    (hs.block k (by have := ho.size; have := h.sz; omega) hk2).trans (ho.block k (by have := h.sz; omega) (by omega))
  refine ⟨hb1, ⟨h.bl.trans ((ho.below h.bl.size (fun k q => by omega)).setCell (by show w.heap.size ≤ w.heap.size; omega) _), hb1.set v1, ?_, S_only hR hs (fun k q => by omega), ?_, Nat.le_trans h.sz (Nat.le_trans ho.size hs.size)⟩, hn⟩
  · exact (hn _ (by omega) (by omega)).trans h.r1
  · exact (hn _ (by omega) (by omega)).trans h.df
set_option maxHeartbeats 4000000 in
set_option maxRecDepth 100000 in
theorem split_calls (w : World) (A : Option Addr) (c : Nat) (b : List Int) (hC : Kd.C (Kd.int .u8) w A b.length b) (hc : b.length ≤ c) (hl : b.length ≤ 100000) (hB : Bt b) :
    Calls Tryd.prog 5 #[.slice A b.length c] w fun e w' => Below w.heap.size w w' ∧ ∃ v, e = .returned (.tuple #[v, .int .i64 (pks (b.length + 1) b).2]) ∧ KS w' w.heap.size (fun _ => True) v (pks (b.length + 1) b).1 := by
  refine (callsIn_wide (n := 3)).1 ?_
  refine callsIn_of_wp_marks Tryd.func5 rfl trivial ?_ rfl
  simp only [Tryd.ntmps5, List.size_toArray, List.length_cons, List.length_nil, Nat.reduceAdd, Nat.reduceSub, Array.replicate_succ, Array.replicate_zero, List.push_toArray, List.append_toArray, List.nil_append, List.cons_append]
  gi_wp2_with (first
    | (refine ⟨trivial, ?_⟩; gi_at_call 13; refine (callsIn_wide.2 (maker_calls _ _ _ _)).mono ?_; rintro e_ w1 ⟨rfl, rfl⟩)
    | (gi_at_call 13; refine (callsIn_wide.2 (maker_calls _ _ _ _)).mono ?_; rintro e_ w1 ⟨rfl, rfl⟩))
  refine open_range rfl (by omega) trivial (gf := 25) (lb := #[.pointer (some ⟨w.heap.size + 1 + 1, 0, none⟩)]) rfl (enters_of Tryd.func25 (by kernel_rfl) rfl) ?_
  intro fn rec W1 _ hrec hW1
  have HREC := Aside0.mk hrec
  clear hrec
  simp only [World.size_alloc, Nat.reduceSub, List.append_toArray, List.cons_append, List.nil_append] at hW1 HREC ⊢
  obtain ⟨H1, e1⟩ : ∃ H1, w.heap.size + 1 = H1 := ⟨_, rfl⟩
  rw [e1] at HREC ⊢
  obtain ⟨Bn, e3⟩ : ∃ Bn, H1 + 1 = Bn := ⟨_, rfl⟩
  rw [e3] at HREC ⊢
  obtain ⟨D, e4⟩ : ∃ D, Bn + 1 = D := ⟨_, rfl⟩
  rw [e4]
  obtain ⟨L, e5⟩ : ∃ L, D + 1 = L := ⟨_, rfl⟩
  rw [e5]
  obtain ⟨E, e6⟩ : ∃ E, L + 1 = E := ⟨_, rfl⟩
  have lay : w.heap.size < H1 ∧ H1 < D ∧ D < E := by omega
  have hsz : W1.heap.size = E := by rw [hW1]; simp only [World.size_alloc]; omega
  have f0 : Boxed W1 w.heap.size 23 (.slice none 0 0) := by
    rw [hW1]
    exact ((((Boxed.new w 23 (.slice none 0 0)).alloc _).alloc _).alloc _).alloc _
  have f1 : Boxed W1 H1 24 (.int .i64 0) := by
    have h := Boxed.new (w.alloc (.cells #[.slice none 0 0] 23)) 24 (.int .i64 0)
    rw [World.size_alloc, e1] at h
    rw [hW1]
    exact ((h.alloc _).alloc _).alloc _
  have f3 : Boxed W1 Bn 22 (.slice A b.length c) := by
    have h := Boxed.new ((w.alloc (.cells #[.slice none 0 0] 23)).alloc (.cells #[.int .i64 0] 24)) 22 (.slice A b.length c)
    rw [World.size_alloc, World.size_alloc, e1, e3] at h
    rw [hW1]
    exact (h.alloc _).alloc _
  have f4 : W1.heap[D]? = some (.deferred (some [])) := by
    have h := World.alloc_heap_new (((w.alloc (.cells #[.slice none 0 0] 23)).alloc (.cells #[.int .i64 0] 24)).alloc (.cells #[.slice A b.length c] 22)) (.deferred (some []))
    rw [World.size_alloc, World.size_alloc, World.size_alloc, e1, e3, e4] at h
    rw [hW1]
    exact (Below.heap_alloc _ _ _ (by simp only [World.size_alloc]; omega)).trans h
  have f5 : W1.heap[L]? = some (.loop (rec .ready none)) := by
    have h := World.alloc_heap_new ((((w.alloc (.cells #[.slice none 0 0] 23)).alloc (.cells #[.int .i64 0] 24)).alloc (.cells #[.slice A b.length c] 22)).alloc (.deferred (some []))) (.loop (rec .ready none))
    rw [World.size_alloc, World.size_alloc, World.size_alloc, World.size_alloc, e1, e3, e4, e5] at h
    rw [hW1]
    exact h
  have fb : Below w.heap.size w W1 := by
    rw [hW1]
    exact below_alloc (below_alloc (below_alloc (below_alloc (below_alloc (Below.refl _ _) _) _) _) _) _
  clear hW1
  have LL : Bn < L ∧ H1 < Bn ∧ Bn < D ∧ L < E ∧ D < L := by omega
  have LY := Aside0.mk lay
  have LX := Aside0.mk LL
  have OM0 := Aside0.mk (show Om w H1 D E (.slice none 0 0) [] W1 from ⟨fb, f0, f1, Kd.S_nil _ _ _ _ _, f4, by omega⟩)
  have F5 := Aside0.mk f5
  have F3 := Aside0.mk f3
  have HC := Aside0.mk hC
  have HB := Aside0.mk hB
  have HL := Aside0.mk hl
  have hBn : w.heap.size ≤ Bn := by omega
  clear f0 f1 f3 f4 f5 fb hsz e1 e3 e4 e5 e6 lay LL hC hB hl
  refine (each_calls L Bn w b HL.out HB.out (fun ms W => ∃ v, Om w H1 D E v ms W ∧ W.heap[L]? = some (.loop (rec .ready none)))
    (fun ms e W => ∃ v, Below w.heap.size w W ∧ Boxed W w.heap.size 23 v ∧ Boxed W H1 24 (.int .i64 e) ∧ KS W E (fun _ => True) v ms ∧ W.heap[L]? = some (.loop (rec .done (some .ret))) ∧ W.heap[D]? = some (.deferred (some [])))
    ?jbb ?jss ?j00 hBn ?nnn ?ggg W1 A c F3.out HC.out hc ⟨_, OM0.out, F5.out⟩).mono ?_
  case jbb =>
    rintro ms W W' ⟨v, h, hr⟩ hb
    exact ⟨v, h.only LY.out (Only.of_below hb : Only (fun _ => False) W W') (fun _ q => q.elim), (hb.block L (Array.getElem?_eq_some_iff.1 hr).1).trans hr⟩
  case jss =>
    rintro ms W u ⟨v, h, hr⟩
    have hL := LX.out
    exact ⟨v, h.only LY.out (only_setCell W Bn u) (fun k q => by omega), ((only_setCell W Bn u).block L (Array.getElem?_eq_some_iff.1 hr).1 (by omega)).trans hr⟩
  case j00 =>
    rintro ms W ⟨v, h, hr⟩
    exact h.bl
  case nnn =>
    rintro ms W e he ⟨v, hO, hr⟩
    have hL := LX.out
    obtain ⟨A9, c9, e9⟩ := Kd.R_slice (Kd.S_R hO.R)
    obtain ⟨n9, hn9⟩ : ∃ n9, ms.length = n9 := ⟨_, rfl⟩
    rw [hn9] at e9
    clear hn9
    subst e9
    refine ⟨fn, _, _, _, HREC.out.yield hr rfl, roundIn_of_wpIn trivial ?_⟩
    obtain ⟨WA, hWA⟩ : ∃ WA, W.alloc (.cells #[.int .i64 0, .int .i64 0, .slice none 0 0, .slice none 0 0, .slice none 0 0, .int .i64 0, .int .i64 0, .int .i64 0, .slice none 0 0, .slice none 0 0] 35) = WA := ⟨_, rfl⟩
    have hoA := (Only.refl (fun _ => False) W).alloc (.cells #[.int .i64 0, .int .i64 0, .slice none 0 0, .slice none 0 0, .slice none 0 0, .int .i64 0, .int .i64 0, .int .i64 0, .slice none 0 0, .slice none 0 0] 35)
    rw [hWA] at hoA
    have hOA := hO.only LY.out hoA (fun _ q => q.elim)
    have hrA : WA.heap[L]? = some (.loop (rec .ready none)) := (hoA.block L (Array.getElem?_eq_some_iff.1 hr).1 (fun q => q)).trans hr
    obtain ⟨W2, hW2⟩ : ∃ W2, WA.putObj L (.loop (rec .busy none)) = W2 := ⟨_, rfl⟩
    have ho2 := only_putObj WA L (.loop (rec .busy none))
    rw [hW2] at ho2
    have hO2 := hOA.only LY.out ho2 (fun k q => by omega)
    have HO2 := Aside0.mk hO2
    have HR2 := Aside0.mk (show W2.heap[L]? = some (.loop (rec .busy none)) by rw [← hW2]; exact World.putObj_heap_same (Array.getElem?_eq_some_iff.1 hrA).1)
    have HRA := Aside0.mk hrA
    have HW2 := Aside0.mk hW2
    have HWA := Aside0.mk hWA
    have q0 : (e != 0) = true := by simpa using he
    have c0 := hO2.r0.cell
    have g0 := hO2.r0.frozen
    have c1 : (W2.setCell ⟨w.heap.size, 0, none⟩ (.slice A9 n9 c9)).cell? ⟨H1, 0, none⟩ = some (.int .i64 0) := (World.cell?_setCell_other _ _ _ _ (fun e => by have := LY.out; injection e with e; omega)).trans hO2.r1.cell
    have g1 : (W2.setCell ⟨w.heap.size, 0, none⟩ (.slice A9 n9 c9)).frozen? ⟨H1, 0, none⟩ = false := by rw [World.frozen?_setCell]; exact hO2.r1.frozen
    clear hL ho2 hO2 hOA hoA hrA hO hr hW2 hWA he
    simp only [List.zip_toArray, List.zip_cons_cons, List.zip_nil_right, List.foldl_toArray, List.foldl_cons, List.foldl_nil, List.setIfInBounds_toArray, List.set_cons_succ, List.set_cons_zero]
    gi_wp2
    try simp only [HWA.out]
    refine ⟨_, HREC.out.begin_ HRA.out, ?_⟩
    rw [HW2.out]
    gi_wp2
    have hL := LX.out
    have hY := LY.out
    have s1 := only_setCell W2 w.heap.size (.slice A9 n9 c9)
    have s2 := only_setCell (W2.setCell ⟨w.heap.size, 0, none⟩ (.slice A9 n9 c9)) H1 (.int .i64 e)
    have hs : ∀ k, k < E → k ≠ w.heap.size → k ≠ H1 → ((W2.setCell ⟨w.heap.size, 0, none⟩ (.slice A9 n9 c9)).setCell ⟨H1, 0, none⟩ (.int .i64 e)).heap[k]? = W2.heap[k]? := fun k hk a b =>
      (s2.block k (by have := s1.size; have := HO2.out.sz; omega) b).trans (s1.block k (by have := HO2.out.sz; omega) a)
    have hr3 := (hs L hL.2.2.2.1 (by omega) (by omega)).trans HR2.out
    have s3 := only_putObj ((W2.setCell ⟨w.heap.size, 0, none⟩ (.slice A9 n9 c9)).setCell ⟨H1, 0, none⟩ (.int .i64 e)) L (.loop (rec .done (some .ret)))
    refine ⟨_, _, HREC.out.end_ (some .ret) hr3, rfl, .slice A9 n9 c9, ?_, ?_, ?_, ?_, World.putObj_heap_same (Array.getElem?_eq_some_iff.1 hr3).1, ?_⟩
    · exact (((HO2.out.bl.setCell (p := ⟨w.heap.size, 0, none⟩) (Nat.le_refl _) _).setCell (p := ⟨H1, 0, none⟩) (by show w.heap.size ≤ H1; omega) _)).trans (s3.below (Nat.le_trans HO2.out.bl.size (Nat.le_trans s1.size s2.size)) (fun k q => by omega))
    · exact boxed_only (boxed_only (HO2.out.r0.set _) s2 (by omega)) s3 (by omega)
    · exact boxed_only ((boxed_only HO2.out.r1 s1 (by omega)).set _) s3 (by omega)
    · exact S_only (S_only (S_only HO2.out.R s1 (fun k q => by omega)) s2 (fun k q => by omega)) s3 (fun k q => by omega)
    · exact (World.putObj_heap_other (by omega)).trans ((hs D (by omega) (by omega) (by omega)).trans HO2.out.df)
  case ggg =>
    rintro ms Wc W ⟨kd, ver, tO, fr, tk, ph, nm, wd⟩ hd bd v2 v3 v4 vh vb hms ⟨v, hO, hr⟩ hb hrows
    have hL := LX.out
    have g2 := hrows v2 tO (.inl ⟨rfl, rfl⟩)
    have g3 := hrows v3 fr (.inr (.inl ⟨rfl, rfl⟩))
    have g4 := hrows v4 tk (.inr (.inr (.inl ⟨rfl, rfl⟩)))
    have gh := hrows vh hd (.inr (.inr (.inr (.inl ⟨rfl, rfl⟩))))
    have gb := hrows vb bd (.inr (.inr (.inr (.inr ⟨rfl, rfl⟩))))
    clear hrows
    obtain ⟨A2, c2, q2⟩ := Kd.R_slice g2
    obtain ⟨n2, hn2⟩ : ∃ n, tO.length = n := ⟨_, rfl⟩
    rw [hn2] at q2
    clear hn2
    subst q2
    obtain ⟨A3, c3, q3⟩ := Kd.R_slice g3
    obtain ⟨n3, hn3⟩ : ∃ n, fr.length = n := ⟨_, rfl⟩
    rw [hn3] at q3
    clear hn3
    subst q3
    obtain ⟨A4, c4, q4⟩ := Kd.R_slice g4
    obtain ⟨n4, hn4⟩ : ∃ n, tk.length = n := ⟨_, rfl⟩
    rw [hn4] at q4
    clear hn4
    subst q4
    obtain ⟨Ah, ch, qh⟩ := Kd.R_slice gh
    obtain ⟨nh, hnh⟩ : ∃ n, hd.length = n := ⟨_, rfl⟩
    rw [hnh] at qh
    clear hnh
    subst qh
    obtain ⟨Ab, cb, qb⟩ := Kd.R_slice gb
    obtain ⟨nb, hnb⟩ : ∃ n, bd.length = n := ⟨_, rfl⟩
    rw [hnb] at qb
    clear hnb
    subst qb
    have hlt : L < Wc.heap.size := (Array.getElem?_eq_some_iff.1 hr).1
    have hr1 := (hb.block L hlt).trans hr
    have hO1 := hO.only LY.out (Only.of_below hb : Only (fun _ => False) Wc W) (fun _ q => q.elim)
    have hvb : ∀ k, v.ownBlock = some k → k < Wc.heap.size := Kd.S_lt hO.R
    have hEc : E ≤ Wc.heap.size := hO.sz
    have hWW := hb.size
    refine ⟨fn, _, _, _, HREC.out.yield hr1 rfl, roundIn_of_wpIn trivial ?_⟩
    obtain ⟨WA, hWA⟩ : ∃ WA, W.alloc (.cells #[.int .i64 kd, .int .i64 ver, .slice A2 n2 c2, .slice A3 n3 c3, .slice A4 n4 c4, .int .i64 ph, .int .i64 nm, .int .i64 wd, .slice Ah nh ch, .slice Ab nb cb] 35) = WA := ⟨_, rfl⟩
    have hoA := (Only.refl (fun _ => False) W).alloc (.cells #[.int .i64 kd, .int .i64 ver, .slice A2 n2 c2, .slice A3 n3 c3, .slice A4 n4 c4, .int .i64 ph, .int .i64 nm, .int .i64 wd, .slice Ah nh ch, .slice Ab nb cb] 35)
    have hoB := (Only.refl (fun j => j = L) W).alloc (.cells #[.int .i64 kd, .int .i64 ver, .slice A2 n2 c2, .slice A3 n3 c3, .slice A4 n4 c4, .int .i64 ph, .int .i64 nm, .int .i64 wd, .slice Ah nh ch, .slice Ab nb cb] 35)
    have hxA := World.alloc_heap_new W (.cells #[.int .i64 kd, .int .i64 ver, .slice A2 n2 c2, .slice A3 n3 c3, .slice A4 n4 c4, .int .i64 ph, .int .i64 nm, .int .i64 wd, .slice Ah nh ch, .slice Ab nb cb] 35)
    rw [hWA] at hoA hoB hxA
    have hOA := hO1.only LY.out hoA (fun _ q => q.elim)
    have hrA : WA.heap[L]? = some (.loop (rec .ready none)) := (hoA.block L (by omega) (fun q => q)).trans hr1
    obtain ⟨W2, hW2⟩ : ∃ W2, WA.putObj L (.loop (rec .busy none)) = W2 := ⟨_, rfl⟩
    have ho2 := only_putObj WA L (.loop (rec .busy none))
    rw [hW2] at ho2
    have hO2 := hOA.only LY.out ho2 (fun k q => by omega)
    have HO2 := Aside0.mk hO2
    have HR2 := Aside0.mk (show W2.heap[L]? = some (.loop (rec .busy none)) by rw [← hW2]; exact World.putObj_heap_same (Array.getElem?_eq_some_iff.1 hrA).1)
    have hbx : W2.heap[W.heap.size]? = some (.cells #[.int .i64 kd, .int .i64 ver, .slice A2 n2 c2, .slice A3 n3 c3, .slice A4 n4 c4, .int .i64 ph, .int .i64 nm, .int .i64 wd, .slice Ah nh ch, .slice Ab nb cb] 35) := (ho2.block W.heap.size (Array.getElem?_eq_some_iff.1 hxA).1 (by omega)).trans hxA
    have mv : ∀ (u : Value) (x : List Int), Kd.R (Kd.int .u8) 5 W Wc.heap.size (fun _ => True) u x → Kd.R (Kd.int .u8) 5 W2 E (fun j => Wc.heap.size ≤ j) u x := fun u x h =>
      Kd.R_lower (Kd.R_mono (Kd.R_bound (R_only (R_only h hoA (fun _ q => q.elim)) ho2 (fun k q => by omega))) (fun j hj => hj.2.1)) hEc
    have HM := Aside0.mk (kP_mkM W2 E (fun j => Wc.heap.size ≤ j) ((kd, ver, tO, fr, tk, ph, nm, wd), hd, bd) (mv _ _ g2) (mv _ _ g3) (mv _ _ g4) (mv _ _ gh) (mv _ _ gb))
    have HSO := Aside0.mk (S_old hO.R (((Only.of_below hb : Only (fun j => j = L) Wc W).trans hoB).trans ho2) (fun j q => by omega))
    have HBn := Aside0.mk (show W2.heap[Bn]? = W.heap[Bn]? from (ho2.block Bn (by have := hoA.size; omega) (by omega)).trans (hoA.block Bn (by omega) (fun q => q)))
    have HRA := Aside0.mk hrA
    have HW2 := Aside0.mk hW2
    have HWA := Aside0.mk hWA
    have HVB := Aside0.mk hvb
    have HMS := Aside0.mk hms
    have HEC := Aside0.mk hEc
    have x0 : W2.cell? ⟨W.heap.size, 0, none⟩ = some (.int .i64 kd) := by simp [World.cell?, hbx]
    have x1 : W2.cell? ⟨W.heap.size, 1, none⟩ = some (.int .i64 ver) := by simp [World.cell?, hbx]
    have x2 : W2.cell? ⟨W.heap.size, 2, none⟩ = some (.slice A2 n2 c2) := by simp [World.cell?, hbx]
    have x3 : W2.cell? ⟨W.heap.size, 3, none⟩ = some (.slice A3 n3 c3) := by simp [World.cell?, hbx]
    have x4 : W2.cell? ⟨W.heap.size, 4, none⟩ = some (.slice A4 n4 c4) := by simp [World.cell?, hbx]
    have x5 : W2.cell? ⟨W.heap.size, 5, none⟩ = some (.int .i64 ph) := by simp [World.cell?, hbx]
    have x6 : W2.cell? ⟨W.heap.size, 6, none⟩ = some (.int .i64 nm) := by simp [World.cell?, hbx]
    have x7 : W2.cell? ⟨W.heap.size, 7, none⟩ = some (.int .i64 wd) := by simp [World.cell?, hbx]
    have x8 : W2.cell? ⟨W.heap.size, 8, none⟩ = some (.slice Ah nh ch) := by simp [World.cell?, hbx]
    have x9 : W2.cell? ⟨W.heap.size, 9, none⟩ = some (.slice Ab nb cb) := by simp [World.cell?, hbx]
    have c0 := hO2.r0.cell
    clear hL ho2 hO2 hOA hoA hoB hxA hbx hrA hr1 hO1 hO hr hb hW2 hWA hvb hms hlt hEc hWW mv g2 g3 g4 gh gb
    simp only [List.zip_toArray, List.zip_cons_cons, List.zip_nil_right, List.foldl_toArray, List.foldl_cons, List.foldl_nil, List.setIfInBounds_toArray, List.set_cons_succ, List.set_cons_zero]
    gi_wp2
    try simp only [HWA.out]
    refine ⟨_, HREC.out.begin_ HRA.out, ?_⟩
    rw [HW2.out]
    clear HWA HW2
    gi_wp2_with ((gi_at_builtin; refine S_append_in kP (W := W2) E rfl (.tmp 14) (.tmp 16) 23 35 _ 160 rfl Tryd.underlying23 info82 rfl (by decide) (by omega) v ms ((kd, ver, tO, fr, tk, ph, nm, wd), hd, bd) _ (fun _ => True) (fun j => Wc.heap.size ≤ j) rfl rfl HM.out ?aQ (fun _ _ => trivial) HSO.out ?aS ?aL ?_; (case aQ => exact (fun j hj => ⟨trivial, fun e => by have := HVB.out j e.symm; omega⟩)); (case aS => exact HO2.out.sz); (case aL => have := HMS.out; have := HL.out; omega); intro v1 w1 hR1 hg1; obtain ⟨A9, c9, e9⟩ := Kd.R_slice (Kd.S_R hR1); obtain ⟨n9, hn9⟩ : ∃ n9, (ms ++ [((kd, ver, tO, fr, tk, ph, nm, wd), hd, bd)]).length = n9 := ⟨_, rfl⟩; rw [hn9] at e9; clear hn9; subst e9; have HG := Aside0.mk (HO2.out.grown LY.out hR1 hg1); have c2_ := HG.out.1.cell; have f2_ := HG.out.1.frozen; clear hR1 hg1 c0))
    have HE3 := HG.out.2.2
    have ho3 := HG.out.2.1
    have hr3 := (HE3 L LX.out.2.2.2.1 (by have := LX.out; have := LY.out; omega)).trans HR2.out
    have hb3 := (HE3 Bn (by have := LX.out; omega) (by have := LX.out; have := LY.out; omega)).trans HBn.out
    refine ⟨_, _, HREC.out.end_ none hr3, rfl, ⟨⟨_, ho3.only LY.out (only_putObj _ _ _) (fun k q => by have := LX.out; omega)⟩, World.putObj_heap_same (Array.getElem?_eq_some_iff.1 hr3).1⟩, ?_⟩
    exact (World.putObj_heap_other (by have := LX.out; omega)).trans hb3
  rintro e W2 ⟨⟨v, rfl⟩, (⟨hz, v2, hO, hr⟩ | ⟨hnz, v2, hb, h0, h1, hR, hr, hd⟩)⟩
  · refine ⟨none, _, HREC.out.endLoop hr (by simp), ?_⟩
    have hL := LX.out
    have hO3 := hO.only LY.out (only_putObj W2 L (.loop (rec .exhausted none))) (fun k q => by omega)
    generalize W2.putObj L (.loop (rec .exhausted none)) = W3 at hO3
    clear hr hO
    obtain ⟨ms, hms⟩ : ∃ ms, (pks (b.length + 1) b).1 = ms := ⟨_, rfl⟩
    rw [hms] at hO3
    obtain ⟨A9, c9, e9⟩ := Kd.R_slice (Kd.S_R hO3.R)
    obtain ⟨n9, hn9⟩ : ∃ n9, ms.length = n9 := ⟨_, rfl⟩
    rw [hn9] at e9
    clear hn9
    subst e9
    have HMS := Aside0.mk hms
    have HO3 := Aside0.mk hO3
    have HZ := Aside0.mk hz
    have c0 := hO3.r0.cell
    have g0 := hO3.r0.frozen
    have c1 : (W3.setCell ⟨w.heap.size, 0, none⟩ (.slice A9 n9 c9)).cell? ⟨H1, 0, none⟩ = some (.int .i64 0) := (World.cell?_setCell_other _ _ _ _ (fun e => by have := LY.out; injection e with e; omega)).trans hO3.r1.cell
    have g1 : (W3.setCell ⟨w.heap.size, 0, none⟩ (.slice A9 n9 c9)).frozen? ⟨H1, 0, none⟩ = false := by rw [World.frozen?_setCell]; exact hO3.r1.frozen
    clear hL hO3 hms hz
    gi_wp2
    have hL := LX.out
    have hY := LY.out
    have s1 := only_setCell W3 w.heap.size (.slice A9 n9 c9)
    have s2 := only_setCell (W3.setCell ⟨w.heap.size, 0, none⟩ (.slice A9 n9 c9)) H1 (.int .i64 0)
    have hE := HO3.out.sz
    have x0 := boxed_only (HO3.out.r0.set (.slice A9 n9 c9)) s2 (by omega)
    have x1 := (boxed_only HO3.out.r1 s1 (by omega)).set (.int .i64 0)
    have hR4 := S_only (S_only HO3.out.R s1 (fun k q => by omega)) s2 (fun k q => by omega)
    have hb4 := (HO3.out.bl.setCell (p := ⟨w.heap.size, 0, none⟩) (Nat.le_refl _) (.slice A9 n9 c9)).setCell (p := ⟨H1, 0, none⟩) (by show w.heap.size ≤ H1; omega) (.int .i64 0)
    have hd4 : ((W3.setCell ⟨w.heap.size, 0, none⟩ (.slice A9 n9 c9)).setCell ⟨H1, 0, none⟩ (.int .i64 0)).heap[D]? = some (.deferred (some [])) :=
      (s2.block D (by have := s1.size; omega) (by omega)).trans ((s1.block D (by omega) (by omega)).trans HO3.out.df)
    have hz : E ≤ ((W3.setCell ⟨w.heap.size, 0, none⟩ (.slice A9 n9 c9)).setCell ⟨H1, 0, none⟩ (.int .i64 0)).heap.size := by have := s1.size; have := s2.size; omega
    clear c0 c1 g0 g1 s1 s2
    generalize (W3.setCell ⟨w.heap.size, 0, none⟩ (.slice A9 n9 c9)).setCell ⟨H1, 0, none⟩ (.int .i64 0) = W4 at *
    have s5 := only_putObj W4 D (.deferred none)
    have y0 := (boxed_only x0 s5 (by omega)).cell
    have y1 := (boxed_only x1 s5 (by omega)).cell
    refine ⟨by simp, .inl ⟨D, _, rfl, run_takeDeferred hd4, .tuple #[.slice A9 n9 c9, .int .i64 0], ?_, ?_⟩⟩
    · clear x0 x1 hR4 hb4 hd4 hz hE s5 hL hY
      generalize W4.putObj D (.deferred none) = W5 at *
      simp [results, Tryd.results5, go_sem, y0, y1]
    · refine ⟨hb4.trans (s5.below hb4.size (fun k q => by omega)), _, by rw [HZ.out], ?_⟩
      rw [HMS.out]
      exact Kd.S_lower (S_only hR4 s5 (fun k q => by omega)) (by omega)
  · refine ⟨some .ret, _, HREC.out.endLoop hr (by simp), ?_⟩
    have hL := LX.out
    have hY := LY.out
    have s4 := only_putObj W2 L (.loop (rec .exhausted (some .ret)))
    have x0 := boxed_only h0 s4 (by omega)
    have x1 := boxed_only h1 s4 (by omega)
    have hR4 := S_only hR s4 (fun k q => by omega)
    have hd4 := (s4.block D (Array.getElem?_eq_some_iff.1 hd).1 (by omega)).trans hd
    have hb4 := hb.trans (s4.below hb.size (fun k q => by omega))
    clear hr h0 h1 hd hb s4 hR
    generalize W2.putObj L (.loop (rec .exhausted (some .ret))) = W4 at *
    have X0 := Aside0.mk x0
    have X1 := Aside0.mk x1
    have HD4 := Aside0.mk hd4
    have HB4 := Aside0.mk hb4
    have HR4 := Aside0.mk hR4
    clear x0 x1 hd4 hb4 hL hY hnz hR4
    gi_wp2
    have hL := LX.out
    have hY := LY.out
    have s5 := only_putObj W4 D (.deferred none)
    have y0 := (boxed_only X0.out s5 (by omega)).cell
    have y1 := (boxed_only X1.out s5 (by omega)).cell
    have hb4 := HB4.out
    refine ⟨by simp, .inl ⟨D, _, rfl, run_takeDeferred HD4.out, .tuple #[v2, .int .i64 (pks (b.length + 1) b).2], ?_, ?_⟩⟩
    · clear s5 hL hY hb4
      generalize W4.putObj D (.deferred none) = W5 at *
      simp [results, Tryd.results5, go_sem, y0, y1]
    · exact ⟨hb4.trans (s5.below hb4.size (fun k q => by omega)), _, rfl, Kd.S_lower (S_only HR4.out s5 (fun k q => by omega)) (by omega)⟩
end Go.Proofs.YtpihkmpcnkhnfaaDoor.Hsi
namespace Go.Proofs.YtpihkmpcnkhnfaaDoor.QHs
open Go Go.RowKit Go.Proofs.YtpihkmpcnkhnfaaDoorW.PrintWords Go.Proofs.YtpihkmpcnkhnfaaDoorW.PrintLast Go.Proofs.YtpihkmpcnkhnfaaDoorW.PrintMore Go.Proofs.YtpihkmpcnkhnfaaDoor.QHe Go.Proofs.YtpihkmpcnkhnfaaDoor.HeP Go.Proofs.YtpihkmpcnkhnfaaDoor.QHc
open Go.Proofs.YtpihkmpcnkhnfaaDoor.Hr (hread)
open Go.Proofs.YtpihkmpcnkhnfaaDoor.HsP (pks)
open Go.Proofs.YtpihkmpcnkhnfaaDoor.Hsi (Pk KS)
attribute [local go_sem] max2_int min2_int max_two min_two max_three min_three max_four min_four
set_option linter.unusedVariables false
set_option linter.unusedSimpArgs false
theorem told_f (a0 a1 : Int) (l2 l3 l4 : List Int) (a5 a6 a7 : Int) (h2 : l2.length ≤ 2000) (h3 : l3.length ≤ 2000) (h4 : l4.length ≤ 2000) : shibbolethlaw05_told.f 3000 a0 a1 l2 l3 l4 a5 a6 a7 a0 a1 l2 l3 l4 a5 a6 a7 = some true := by
 unfold shibbolethlaw05_told.f
 rw [if_pos rfl, if_pos rfl, same_f _ (by omega) 3000 (by omega), same_f _ (by omega) 3000 (by omega), same_f _ (by omega) 3000 (by omega)]
 simp
theorem pk_at {W : World} {base : Nat} {v : Value} {ms : List Pk} (hS : KS W base (fun _ => True) v ms) (k : Nat) (hk : k < ms.length) (x : Pk) (hx : ms[k]? = some x) :
  ∃ g c A2 c2 A3 c3 A4 c4 Ah ch Ab cb, v = .slice (some ⟨g, 0, none⟩) ms.length c ∧
   (∀ (j : Nat) (u : Value), [Value.int .i64 x.1.1, .int .i64 x.1.2.1, .slice A2 x.1.2.2.1.length c2, .slice A3 x.1.2.2.2.1.length c3, .slice A4 x.1.2.2.2.2.1.length c4, .int .i64 x.1.2.2.2.2.2.1, .int .i64 x.1.2.2.2.2.2.2.1, .int .i64 x.1.2.2.2.2.2.2.2, .slice Ah x.2.1.length ch, .slice Ab x.2.2.length cb][j]? = some u → W.cell? ⟨g, k * 10 + j, none⟩ = some u) ∧
   (x.1.2.2.1.length ≤ c2 ∧ (Kd.int .u8).C W A2 x.1.2.2.1.length x.1.2.2.1) ∧ (x.1.2.2.2.1.length ≤ c3 ∧ (Kd.int .u8).C W A3 x.1.2.2.2.1.length x.1.2.2.2.1) ∧ (x.1.2.2.2.2.1.length ≤ c4 ∧ (Kd.int .u8).C W A4 x.1.2.2.2.2.1.length x.1.2.2.2.2.1) ∧ (x.2.1.length ≤ ch ∧ (Kd.int .u8).C W Ah x.2.1.length x.2.1) ∧ (x.2.2.length ≤ cb ∧ (Kd.int .u8).C W Ab x.2.2.length x.2.2) := by
 have hR := Kd.S_R hS
 obtain ⟨A, c, e, hl, hC⟩ := Kd.R_reads hR
 obtain ⟨inner, ho⟩ := Kd.R_own hR
 obtain ⟨ad, cs, e1, hcl, hK, hat⟩ := Kd.C_get hC x (k : Int) (by omega) (by omega)
 subst e1
 have hg : ∃ g, ad = ⟨g, 0, none⟩ := by
  rcases ho.2 with ⟨h1, _⟩ | ⟨g, cap, cur, h1, _⟩
  ·rw [h1] at e; injection e with e; cases e
  ·rw [h1] at e; injection e with e; injection e with e; exact ⟨g, e.symm⟩
 obtain ⟨g, rfl⟩ := hg
 rw [Int.toNat_natCast] at hat
 have hz : ms.getD ((k : Int).toNat) x = x := by rw [Int.toNat_natCast, List.getD_eq_getElem?_getD, hx]; rfl
 rw [hz] at hK
 obtain ⟨_, _, rfl, rfl, _, _, rfl, rfl, _, _, rfl, ⟨A2, c2, rfl, h2, r2⟩, _, _, rfl, ⟨A3, c3, rfl, h3, r3⟩, _, _, rfl, ⟨A4, c4, rfl, h4, r4⟩, _, _, rfl, rfl, _, _, rfl, rfl, _, _, rfl, rfl, _, _, rfl, ⟨Ah, ch, rfl, hh, rh⟩, ⟨Ab, cb, rfl, hb, rb⟩⟩ := hK
 refine ⟨g, c, A2, c2, A3, c3, A4, c4, Ah, ch, Ab, cb, e, fun j u hj => ?_, ⟨h2, r2⟩, ⟨h3, r3⟩, ⟨h4, r4⟩, ⟨hh, rh⟩, ⟨hb, rb⟩⟩
 have := hat j u hj
 rw [Addr.add_lit, Nat.zero_add] at this
 exact this
theorem pks_nil (f : Nat) : pks f [] = ([], 0) := by cases f <;> simp [pks]
theorem pks_good {f : Nat} {b : List Int} {fl : Hr.Flds} {p : Nat} {fin : Int} (h : b ≠ []) (hr : hread b = .ok (fl, p, fin)) :
  pks (f + 1) b = ((fl, b.take p, (b.take fin.toNat).drop p) :: (pks f (b.drop fin.toNat)).1, (pks f (b.drop fin.toNat)).2) := by rw [pks, if_neg h, hr]
end Go.Proofs.YtpihkmpcnkhnfaaDoor.QHs
