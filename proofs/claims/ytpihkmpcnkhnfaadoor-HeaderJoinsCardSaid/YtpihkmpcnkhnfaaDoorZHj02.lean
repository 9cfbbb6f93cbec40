/- A part of the proof of the law HeaderJoins: QVax0, Vn, Gv0, Gv1, QVax1, Gw0, Gw1, Onl, Hr0, Hr1, Hr2, Hr3, Hr4. -/
import Derived.Test.YtpihkmpcnkhnfaaDoorProg
import Derived.Below
import Derived.Deep.Draws
import Derived.Deep.AppendLies
import Derived.Maps.AppendAt
import Derived.OwnWalk
import Derived.Laws.BytesArg
import Derived.Laws.MakeOwn
import Derived.Laws.OwnMore
import Derived.Deep.OwnRows
import Derived.Tactics
import Derived.Lib.ConvBytes
import Derived.Laws.Slices
import Derived.WalkKit
import Derived.KernelRfl
import Derived.RowKit3
import Derived.Deep.LoopGhost
import Derived.Deep.QuietTactic
import Derived.BigQuiet
import Derived.WideLaws
import Derived.Deep.DeepCutAuto
import Derived.Deep.CutBlock
import Derived.Deep.RegionHeld3
import Derived.Laws.Rows
import Derived.Lib.AppendStr
import Derived.ArgAppend
import Derived.Laws.IdiomCopy
import Derived.OrdersHeld
import Derived.Laws.BitsLemmas
import Derived.RowKit
import Derived.Test.YtpihkmpcnkhnfaaDoorZHj00
import Derived.Test.YtpihkmpcnkhnfaaDoorZHj01
import Derived.Laws.BitsAllLaws
import Derived.WalkSpells
import Derived.Lib.SliceRun
import Derived.Lib.AppendZeros
import Derived.RangeFuncBox
import Derived.Maps.OwnSet
import Derived.StillTailTactics
import Derived.WalkLawsBesides
import Derived.RegionTactic
import Derived.BigRegion
namespace Go.Proofs.YtpihkmpcnkhnfaaDoor.QVa
open Go.RowKit Go.Proofs.YtpihkmpcnkhnfaaDoorW.PrintWords Go.Proofs.YtpihkmpcnkhnfaaDoorW.PrintLast Go.Proofs.YtpihkmpcnkhnfaaDoorW.PrintMore
attribute [local go_sem] max2_int min2_int max_two min_two max_three min_three max_four min_four
set_option linter.unusedVariables false
set_option linter.unusedSimpArgs false
def errW : Option Int → Value
 | none => .nilIface
 | some c => .iface 0 (.int .i64 c)
theorem errW_none : errW none = .nilIface := rfl
theorem errW_some (c : Int) : errW (some c) = .iface 0 (.int .i64 c) := rfl
theorem info5 : (Tryd.prog.info? 5).map (fun i => (i.zero, i.size, i.bytes)) = some (some (.int .u8 0), 1, 1) := by kernel_rfl
end Go.Proofs.YtpihkmpcnkhnfaaDoor.QVa
namespace Go.Proofs.YtpihkmpcnkhnfaaDoor.Vn
open Go.RowKit Go.Proofs.YtpihkmpcnkhnfaaDoorW.PrintWords
set_option linter.unusedVariables false
def vsize (n : Int) : Int := if n < 0 ∨ n > 4611686018427387903 then 0 else if n < 64 then 1 else if n < 16384 then 2 else if n < 1073741824 then 4 else 8
def Bytes (l : List Int) : Prop := ∀ x, x ∈ l → 0 ≤ x ∧ x ≤ 255
instance (l : List Int) : Decidable (Bytes l) := inferInstanceAs (Decidable (∀ x, x ∈ l → 0 ≤ x ∧ x ≤ 255))
def num (n : Int) (l : List Int) : Int := l.foldl (fun n c => 256 * n + c) n
def vread (l : List Int) : Int × Int × Int :=
  if l.length = 0 then (0, 0, 2) else
  if l.length < 2 ^ (rd l 0 / 64).toNat then (0, 0, 2) else
  if vsize (num (rd l 0 % 64) ((l.take (2 ^ (rd l 0 / 64).toNat)).drop 1)) = ((2 ^ (rd l 0 / 64).toNat : Nat) : Int) then (num (rd l 0 % 64) ((l.take (2 ^ (rd l 0 / 64).toNat)).drop 1), ((2 ^ (rd l 0 / 64).toNat : Nat) : Int), 0) else (0, 0, 3)
theorem num_snoc (n : Int) (l : List Int) (c : Int) : num n (l ++ [c]) = 256 * num n l + c := by simp [num]
theorem num_take (n : Int) (l : List Int) (k : Nat) (hk : k < l.length) : num n (l.take (k + 1)) = 256 * num n (l.take k) + rd l k := by
  rw [List.take_succ_eq_append_getElem hk, num_snoc]
  simp [rd, List.getD_eq_getElem?_getD, List.getElem?_eq_getElem hk]
theorem bytes_rd {l : List Int} (h : Bytes l) (i : Nat) (hi : i < l.length) : 0 ≤ rd l i ∧ rd l i ≤ 255 := by
  have : rd l i = l[i] := by simp [rd, List.getD_eq_getElem?_getD, List.getElem?_eq_getElem hi]
  rw [this]; exact h _ (List.getElem_mem hi)
theorem Bytes.take {l : List Int} (h : Bytes l) (n : Nat) : Bytes (l.take n) := fun x hx => h x (List.mem_of_mem_take hx)
theorem Bytes.drop {l : List Int} (h : Bytes l) (n : Nat) : Bytes (l.drop n) := fun x hx => h x (List.mem_of_mem_drop hx)
theorem Bytes.append {l m : List Int} (h : Bytes l) (h' : Bytes m) : Bytes (l ++ m) := fun x hx => (List.mem_append.1 hx).elim (h x) (h' x)
theorem num_range (n : Int) (h0 : 0 ≤ n) (h1 : n < 64) (l : List Int) (hb : Bytes l) : ∀ k : Nat, k ≤ l.length → 0 ≤ num n (l.take k) ∧ num n (l.take k) < 64 * 256 ^ k := by
  intro k
  induction k with
  | zero => intro _; simp [num]; omega
  | succ k ih =>
    intro hk
    obtain ⟨a, b⟩ := ih (by omega)
    obtain ⟨c, d⟩ := bytes_rd hb k (by omega)
    rw [num_take n l k (by omega), Int.pow_succ]
    constructor
    · omega
    · have : num n (l.take k) + 1 ≤ 64 * 256 ^ k := b
      have := Int.mul_le_mul_of_nonneg_left this (show (0 : Int) ≤ 256 by decide)
      rw [← Int.mul_assoc, Int.mul_comm 256 64, Int.mul_assoc] at this
      rw [Int.mul_comm (256 ^ k) 256]
      omega
theorem pow256 (k : Nat) (hk : k ≤ 6) : (256 : Int) ^ k ≤ 281474976710656 := by
  have : ∀ j : Fin 7, (256 : Int) ^ (j : Nat) ≤ 281474976710656 := by decide
  exact this ⟨k, by omega⟩
theorem pow256' (k : Nat) (hk : k ≤ 7) : (256 : Int) ^ k ≤ 72057594037927936 := by
  have : ∀ j : Fin 8, (256 : Int) ^ (j : Nat) ≤ 72057594037927936 := by decide
  exact this ⟨k, by omega⟩
theorem or_byte (v c : Int) (h0 : 0 ≤ v) (h1 : v < 72057594037927936) (hc : 0 ≤ c) (hc' : c ≤ 255) : bits BinOp.or IntKind.u64 (IntKind.u64.wrap (v * 256)) (IntKind.u64.wrap c) = 256 * v + c := by
  have e1 : IntKind.u64.wrap (v * 256) = v * 256 := by simp [IntKind.wrap, IntKind.bits, IntKind.signed]; omega
  have e2 : IntKind.u64.wrap c = c := by simp [IntKind.wrap, IntKind.bits, IntKind.signed]; omega
  rw [e1, e2, u64_or (v * 256) c (by omega) (by omega) hc (by omega)]
  have h := Nat.shiftLeft_add_eq_or_of_lt (i := 8) (b := c.toNat) (by omega) v.toNat
  rw [Nat.shiftLeft_eq] at h
  have e3 : (v * 256).toNat = v.toNat * 2 ^ 8 := by omega
  rw [e3, ← h]
  omega
theorem and63 (b : Int) (h0 : 0 ≤ b) (h1 : b ≤ 255) : bits BinOp.and IntKind.u8 b 63 = b % 64 := by
  have : ∀ j : Fin 256, bits BinOp.and IntKind.u8 ((j : Nat) : Int) 63 = ((j : Nat) : Int) % 64 := by decide +kernel
  have h := this ⟨b.toNat, by omega⟩
  simp only [] at h
  rwa [Int.toNat_of_nonneg h0] at h
end Go.Proofs.YtpihkmpcnkhnfaaDoor.Vn
namespace Go.Proofs.YtpihkmpcnkhnfaaDoor.Vn
open Go.RowKit Go.Proofs.YtpihkmpcnkhnfaaDoorW.PrintWords
set_option linter.unusedVariables false
set_option linter.unusedSimpArgs false
def vbytes (n : Int) : List Int :=
  if n < 0 ∨ n > 4611686018427387903 then [] else
  if n < 64 then [n] else
  if n < 16384 then [n / 256 + 64, n % 256] else
  if n < 1073741824 then [n / 16777216 + 128, n / 65536 % 256, n / 256 % 256, n % 256] else
  [n / 72057594037927936 + 192, n / 281474976710656 % 256, n / 1099511627776 % 256, n / 4294967296 % 256, n / 16777216 % 256, n / 65536 % 256, n / 256 % 256, n % 256]
theorem vsize_cases (n : Int) : (n < 0 ∨ n > 4611686018427387903) ∧ vsize n = 0 ∧ vbytes n = [] ∨ (0 ≤ n ∧ n < 64) ∧ vsize n = 1 ∧ vbytes n = [n] ∨ (64 ≤ n ∧ n < 16384) ∧ vsize n = 2 ∧ vbytes n = [n / 256 + 64, n % 256] ∨
    (16384 ≤ n ∧ n < 1073741824) ∧ vsize n = 4 ∧ vbytes n = [n / 16777216 + 128, n / 65536 % 256, n / 256 % 256, n % 256] ∨
    (1073741824 ≤ n ∧ n < 4611686018427387904) ∧ vsize n = 8 ∧ vbytes n = [n / 72057594037927936 + 192, n / 281474976710656 % 256, n / 1099511627776 % 256, n / 4294967296 % 256, n / 16777216 % 256, n / 65536 % 256, n / 256 % 256, n % 256] := by
  unfold vsize vbytes
  by_cases h1 : n < 0 ∨ n > 4611686018427387903
  · left; simp only [if_pos h1]; exact ⟨h1, trivial, trivial⟩
  by_cases h2 : n < 64
  · right; left; simp only [if_neg h1, if_pos h2]; exact ⟨⟨by omega, h2⟩, trivial, trivial⟩
  by_cases h3 : n < 16384
  · right; right; left; simp only [if_neg h1, if_neg h2, if_pos h3]; exact ⟨⟨by omega, h3⟩, trivial, trivial⟩
  by_cases h4 : n < 1073741824
  · right; right; right; left; simp only [if_neg h1, if_neg h2, if_neg h3, if_pos h4]; exact ⟨⟨by omega, h4⟩, trivial, trivial⟩
  · right; right; right; right; simp only [if_neg h1, if_neg h2, if_neg h3, if_neg h4]; exact ⟨⟨by omega, by omega⟩, trivial, trivial⟩
theorem vbytes_len (n : Int) : ((vbytes n).length : Int) = vsize n := by
  rcases vsize_cases n with ⟨_, h, e⟩ | ⟨_, h, e⟩ | ⟨_, h, e⟩ | ⟨_, h, e⟩ | ⟨_, h, e⟩ <;> rw [h, e] <;> rfl
theorem vbytes_le (n : Int) : (vbytes n).length ≤ 8 := by
  rcases vsize_cases n with ⟨_, h, e⟩ | ⟨_, h, e⟩ | ⟨_, h, e⟩ | ⟨_, h, e⟩ | ⟨_, h, e⟩ <;> rw [e] <;> simp
theorem vbytes_bytes (n : Int) : Bytes (vbytes n) := by
  intro x hx
  rcases vsize_cases n with ⟨hn, h, e⟩ | ⟨hn, h, e⟩ | ⟨hn, h, e⟩ | ⟨hn, h, e⟩ | ⟨hn, h, e⟩ <;> rw [e] at hx <;> simp at hx
  · omega
  · rcases hx with rfl | rfl <;> omega
  · rcases hx with rfl | rfl | rfl | rfl <;> omega
  · rcases hx with rfl | rfl | rfl | rfl | rfl | rfl | rfl | rfl <;> omega
theorem vread_vbytes (n : Int) (hn : 0 ≤ n) (hn' : n ≤ 4611686018427387903) (r : List Int) : vread (vbytes n ++ r) = (n, ((vbytes n).length : Int), 0) := by
  have hs := vbytes_len n
  rcases vsize_cases n with ⟨h0, h, e⟩ | ⟨h0, h, e⟩ | ⟨h0, h, e⟩ | ⟨h0, h, e⟩ | ⟨h0, h, e⟩
  · omega
  all_goals rw [e]; unfold vread
  · have q : (n : Int) / 64 = 0 := by omega
    have q2 : n % 64 = n := by omega
    simp [rd, q, q2, num, h]
  · have q : (n / 256 + 64) / 64 = 1 := by omega
    have q2 : 256 * (n / 256 % 64) + n % 256 = n := by omega
    have q3 : ¬ (r.length + 1 + 1 < 2) := by omega
    simp [rd, q, q2, q3, num, h]
  · have q : (n / 16777216 + 128) / 64 = 2 := by omega
    have q2 : 256 * (256 * (256 * ((n / 16777216 + 128) % 64) + n / 65536 % 256) + n / 256 % 256) + n % 256 = n := by omega
    have q3 : ¬ (r.length + 1 + 1 + 1 + 1 < 4) := by omega
    simp [rd, q, q2, q3, num, h]
  · have q : (n / 72057594037927936 + 192) / 64 = 3 := by omega
    have q2 : 256 * (256 * (256 * (256 * (256 * (256 * (256 * ((n / 72057594037927936 + 192) % 64) + n / 281474976710656 % 256) + n / 1099511627776 % 256) + n / 4294967296 % 256) + n / 16777216 % 256) + n / 65536 % 256) + n / 256 % 256) + n % 256 = n := by omega
    have q3 : ¬ (r.length + 1 + 1 + 1 + 1 + 1 + 1 + 1 + 1 < 8) := by omega
    simp [rd, q, q2, q3, num, h]
end Go.Proofs.YtpihkmpcnkhnfaaDoor.Vn
namespace Go.Proofs.YtpihkmpcnkhnfaaDoor.Gv
open Go.RowKit Go.Proofs.YtpihkmpcnkhnfaaDoorW.PrintWords Go.Proofs.YtpihkmpcnkhnfaaDoorW.PrintLast Go.Proofs.YtpihkmpcnkhnfaaDoorW.PrintMore
set_option linter.unusedVariables false
set_option linter.unusedSimpArgs false
def tab64 : List Int := [0, 1, 56, 2, 57, 49, 28, 3, 61, 58, 42, 50, 38, 29, 17, 4, 62, 47, 59, 36, 45, 43, 51, 22, 53, 39, 33, 30, 24, 18, 12, 5, 63, 55, 48, 27, 60, 41, 37, 16, 46, 35, 44, 21, 52, 32, 23, 11, 54, 26, 40, 15, 34, 20, 31, 10, 25, 14, 19, 9, 13, 8, 7, 6]
structure TB (w : World) : Prop where
  out : ∀ i, i < 64 → w.cell? ⟨1, i, none⟩ = some (.int .u8 (tab64.getD i 0))
theorem TB.below {w W : World} (h : TB w) (hb : Below w.heap.size w W) : TB W := ⟨fun i hi => pw_cell_below hb (h.out i hi)⟩
theorem TB.alloc {w : World} (h : TB w) (o : Obj) : TB (w.alloc o) := h.below (below_alloc (Below.refl _ _) o)
theorem TB.drew {w : World} (h : TB w) : TB w.drew := h.below (below_drew (Below.refl _ _))
theorem TB.drewN {w : World} (h : TB w) (n : Nat) : TB (w.drewN n) := h.below (pw_below_drewN (Below.refl _ _) n)
def bits_TrailingZeros.f (a0 : Int) : Option Int := if a0 = 1 then some 0 else if a0 = 2 then some 1 else if a0 = 4 then some 2 else if a0 = 8 then some 3 else none
theorem tz64 (a0 r : Int) (w : World) (ht : TB w) (h : bits_TrailingZeros.f a0 = some r) : Calls Tryd.prog 37 #[.int .u64 a0] w fun e w' => e = .returned (.int .i64 r) ∧ Drawn0 w w' := by
  have h0 := ht.out 0 (by decide)
  have h1 := ht.out 1 (by decide)
  have h3 := ht.out 3 (by decide)
  have h7 := ht.out 7 (by decide)
  simp only [tab64, List.getD_cons_zero, List.getD_cons_succ] at h0 h1 h3 h7
  clear ht
  unfold bits_TrailingZeros.f at h
  split at h
  · rename_i e; subst e
    obtain rfl := Option.some.inj h
    clear h h1 h3 h7
    have e1 : bits BinOp.and IntKind.u64 1 (IntKind.u64.wrap (-1)) = 1 := by decide +kernel
    have e2 : IntKind.u64.wrap 285870213051353865 = 285870213051353865 := by decide +kernel
    go_enter Tryd.func37, Tryd.ntmps37
    go_wp2
    go_ret
    exact ⟨rfl, Drawn0.refl _⟩
  split at h
  · rename_i e; subst e
    obtain rfl := Option.some.inj h
    clear h h0 h3 h7
    have e1 : bits BinOp.and IntKind.u64 2 (IntKind.u64.wrap (-2)) = 2 := by decide +kernel
    have e2 : IntKind.u64.wrap 571740426102707730 = 571740426102707730 := by decide +kernel
    go_enter Tryd.func37, Tryd.ntmps37
    go_wp2
    go_ret
    exact ⟨rfl, Drawn0.refl _⟩
  split at h
  · rename_i e; subst e
    obtain rfl := Option.some.inj h
    clear h h0 h1 h7
    have e1 : bits BinOp.and IntKind.u64 4 (IntKind.u64.wrap (-4)) = 4 := by decide +kernel
    have e2 : IntKind.u64.wrap 1143480852205415460 = 1143480852205415460 := by decide +kernel
    go_enter Tryd.func37, Tryd.ntmps37
    go_wp2
    go_ret
    exact ⟨rfl, Drawn0.refl _⟩
  split at h
  · rename_i e; subst e
    obtain rfl := Option.some.inj h
    clear h h0 h1 h3
    have e1 : bits BinOp.and IntKind.u64 8 (IntKind.u64.wrap (-8)) = 8 := by decide +kernel
    have e2 : IntKind.u64.wrap 2286961704410830920 = 2286961704410830920 := by decide +kernel
    go_enter Tryd.func37, Tryd.ntmps37
    go_wp2
    go_ret
    exact ⟨rfl, Drawn0.refl _⟩
  · cases h
theorem bits_TrailingZeros.calls (a0 r : Int) (w : World) (ht : TB w) (h : bits_TrailingZeros.f a0 = some r) : Calls Tryd.prog 32 #[.int .u64 a0] w fun e w' => e = .returned (.int .i64 r) ∧ Drawn0 w w' := by
  have H := tz64 a0 r w ht h
  clear ht h
  go_enter Tryd.func32, Tryd.ntmps32
  go_wp2_with (go_at_call 37; refine H.mono ?_; rintro e w' ⟨rfl, ⟨n, rfl⟩⟩)
  go_ret
  exact ⟨rfl, ⟨⟨_, rfl⟩⟩⟩
theorem info5 : (Tryd.prog.info? 5).map (fun i => (i.zero, i.size, i.bytes)) = some (some (.int .u8 0), 1, 1) := by kernel_rfl
def slices_Clone_byte_byte.f (l0 : List Int) : Option (List Int) := if l0.length ≤ 140737488355328 then some l0 else none
set_option maxHeartbeats 1000000 in
theorem slices_Clone_byte_byte.calls (A0 : Option Addr) (c0 : Nat) (l0 : List Int) (r : List Int) (w : World) (hr0 : Kd.C (Kd.int .u8) w A0 l0.length l0) (hc0 : l0.length ≤ c0) (h : slices_Clone_byte_byte.f l0 = some r) :
    Calls Tryd.prog 27 #[.slice A0 l0.length c0] w fun e w' => ∃ v0_ : Value, e = .returned (v0_) ∧ Kd.R (Kd.int .u8) 5 w' w.heap.size (fun _ => True) v0_ r ∧ Below w.heap.size w w' := by
  unfold slices_Clone_byte_byte.f at h
  by_cases hl : l0.length ≤ 140737488355328
  · rw [if_pos hl] at h
    obtain rfl := Option.some.inj h
    clear h
    have q : ∀ (w : World) (a : Option Addr) (n c n' c' : Nat), (binOp .eql 22 (.slice a n c) (.slice none n' c')).run Tryd.prog w = .ok (.bool a.isNone) w := fun w a n c n' c' => Lib.run_eql_slice_nil w _ _ a n c n' c' Tryd.underlying22
    have HR0 := Aside0.mk hr0
    clear hr0
    have HB := Aside0.mk (Below.refl w.heap.size w)
    rcases A0 with _ | ad
    · have e0 : l0 = [] := by
        rcases Nat.eq_zero_or_pos l0.length with h0 | h0
        · exact List.eq_nil_of_length_eq_zero h0
        · obtain ⟨ad, h1, _⟩ := HR0.out.2.2 h0
          cases h1
      subst e0
      clear HR0
      go_enter Tryd.func27, Tryd.ntmps27
      go_wp2
      go_ret
      exact ⟨_, rfl, Kd.R_nil _ _ _ _ _, HB.out⟩
    · have HO := Aside0.mk (Kd.R_of_own (h1 := fun _ => rfl) (enc := Value.int .u8) (xs := []) (ok := fun _ => True) (own_lit w w.heap.size 5 .u8 [] (Nat.le_refl _) (by simp)) (fun _ _ => trivial))
      go_enter Tryd.func27, Tryd.ntmps27
      go_wp2_with ((with_reducible refine gate_builtin (b := .append) (xs := #[.tmp 5, .tmp 6]) rfl ?_); at_builtin; refine Kd.R_append_rows (Kd.int .u8) (w0 := w) w.heap.size rfl (.tmp 5) (.tmp 6) 22 5 (.int .u8 0) 1 rfl Tryd.underlying22 info5 rfl (by decide) (by omega) _ [] l0 _ _ _ (fun _ => True) (fun _ => False) rfl rfl ?aO ?aR (fun _ _ h => h) (fun _ h => h.elim) ?aF ?aB ?aS ?aL ?_; (case aO => exact HO.out); (case aR => exact Kd.C_alloc HR0.out _); (case aB => exact below_alloc HB.out _); (case aF => exact (fun _ _ => trivial)); (case aS => simp); (case aL => simpa using hl); intro v w5 ho hb hg hat)
      go_ret
      exact ⟨_, rfl, by simpa using ho, hb⟩
  · rw [if_neg hl] at h; cases h
end Go.Proofs.YtpihkmpcnkhnfaaDoor.Gv
namespace Go.Proofs.YtpihkmpcnkhnfaaDoor.Gv
open Go.RowKit Go.Proofs.YtpihkmpcnkhnfaaDoorW.PrintWords Go.Proofs.YtpihkmpcnkhnfaaDoorW.PrintLast Go.Proofs.YtpihkmpcnkhnfaaDoorW.PrintMore Go.Proofs.YtpihkmpcnkhnfaaDoor.Vn
set_option linter.unusedVariables false
set_option linter.unusedSimpArgs false
theorem size_calls (n : Int) (w : World) : Calls Tryd.prog 31 #[.int .i64 n] w fun e w' => e = .returned (.int .i64 (vsize n)) ∧ Drawn0 w w' := by
  by_cases h1 : n < 0
  · have e : vsize n = 0 := by simp [vsize, h1]
    rw [e]; clear e
    go_enter Tryd.func31, Tryd.ntmps31
    go_wp2
    go_ret
    exact ⟨rfl, Drawn0.refl _⟩
  by_cases h2 : 4611686018427387903 < n
  · have e : vsize n = 0 := by simp [vsize, h2]
    rw [e]; clear e
    go_enter Tryd.func31, Tryd.ntmps31
    go_wp2
    go_ret
    exact ⟨rfl, Drawn0.refl _⟩
  have e0 : vsize n = if n < 64 then 1 else if n < 16384 then 2 else if n < 1073741824 then 4 else 8 := by unfold vsize; rw [if_neg (by omega)]
  by_cases h3 : n < 64
  · rw [if_pos h3] at e0; rw [e0]; clear e0
    go_enter Tryd.func31, Tryd.ntmps31
    go_wp2
    go_ret
    exact ⟨rfl, Drawn0.refl _⟩
  rw [if_neg h3] at e0
  by_cases h4 : n < 16384
  · rw [if_pos h4] at e0; rw [e0]; clear e0
    go_enter Tryd.func31, Tryd.ntmps31
    go_wp2
    go_ret
    exact ⟨rfl, Drawn0.refl _⟩
  rw [if_neg h4] at e0
  by_cases h5 : n < 1073741824
  · rw [if_pos h5] at e0; rw [e0]; clear e0
    go_enter Tryd.func31, Tryd.ntmps31
    go_wp2
    go_ret
    exact ⟨rfl, Drawn0.refl _⟩
  · rw [if_neg h5] at e0; rw [e0]; clear e0
    go_enter Tryd.func31, Tryd.ntmps31
    go_wp2
    go_ret
    exact ⟨rfl, Drawn0.refl _⟩
def varint_Size.f (a0 : Int) : Option Int := some (vsize a0)
theorem varint_Size.calls (a0 r : Int) (w : World) (h : varint_Size.f a0 = some r) : Calls Tryd.prog 31 #[.int .i64 a0] w fun e w' => e = .returned (.int .i64 r) ∧ Drawn0 w w' := by
  obtain rfl : vsize a0 = r := Option.some.inj h
  exact size_calls a0 w
def varint_Read.f (l0 : List Int) : Option (Int × Int × Int) := if Bytes l0 then some (vread l0) else none
theorem read_at (q : Nat) (hq : q < 4) (A0 : Option Addr) (c0 : Nat) (l0 : List Int) (w : World) (hr0 : Kd.C (Kd.int .u8) w A0 l0.length l0) (hc0 : l0.length ≤ c0) (hB : Bytes l0) (hpos : 0 < l0.length) (hqq : rd l0 0 / 64 = (q : Int))
    (hlen : 2 ^ q ≤ l0.length) : Calls Tryd.prog 44 #[.slice A0 l0.length c0] w fun e w' => e = .returned (.tuple #[.int .i64 (vread l0).1, .int .i64 (vread l0).2.1, .int .i64 (vread l0).2.2]) ∧ Drawn0 w w' := by
  obtain ⟨sz, hsz⟩ : ∃ sz : Nat, sz = 2 ^ q := ⟨_, rfl⟩
  have hsz8 : 1 ≤ sz ∧ sz ≤ 8 := by
    have : ∀ j : Fin 4, 1 ≤ 2 ^ (j : Nat) ∧ 2 ^ (j : Nat) ≤ 8 := by decide
    rw [hsz]; exact this ⟨q, hq⟩
  obtain ⟨t, ht⟩ : ∃ t, t = (l0.take sz).drop 1 := ⟨_, rfl⟩
  have htl : t.length = sz - 1 := by rw [ht, List.length_drop, List.length_take]; omega
  have hBt : Bytes t := by rw [ht]; exact (hB.take _).drop _
  have hb0 : 0 ≤ rd l0 0 ∧ rd l0 0 ≤ 255 := bytes_rd hB 0 hpos
  have hv : vread l0 = if vsize (num (rd l0 0 % 64) t) = (sz : Int) then (num (rd l0 0 % 64) t, (sz : Int), 0) else (0, 0, 3) := by
    unfold vread
    rw [if_neg (by omega), hqq, Int.toNat_natCast, ← hsz, if_neg (by omega), ← ht]
  have hszl : sz ≤ l0.length := by rw [hsz]; exact hlen
  have hsh : wrap64 (2 ^ q) = (sz : Int) := by
    rw [hsz]
    have : ∀ j : Fin 4, wrap64 (2 ^ (j : Nat)) = ((2 ^ (j : Nat) : Nat) : Int) := by decide +kernel
    exact this ⟨q, hq⟩
  obtain ⟨b0, hb⟩ : ∃ b0, b0 = rd l0 0 := ⟨_, rfl⟩
  obtain ⟨ad, rfl, hcell⟩ := Kd.at_int hr0 0 (by omega) (by omega)
  have hm := hr0.2.1
  obtain ⟨i0, hi, hz0, hz1, hz2⟩ := info_parts info5
  obtain ⟨A', hcut, hct, _⟩ := print_mid_of (P := Tryd.prog) (Value.int .u8) (0 : Int) 22 5 .i64 .i64 Tryd.underlying22 hi hz1 (some ad) c0 l0 1 (sz : Int) (by omega) (by omega) (by omega) hc0
  have HT := Aside0.mk (Kd.C_of_reads (h1 := fun _ => rfl) (hct w (Kd.reads_of_C hr0)))
  rw [show (1 : Int).toNat = 1 from rfl, Int.toNat_natCast, ← ht] at HT hcut
  rw [← hb] at hqq hcell hb0 hv
  clear hct hr0 hi hz0 hz1 hz2 hb
  have hand := and63 b0 hb0.1 hb0.2
  have hm6 : 0 ≤ b0 % 64 ∧ b0 % 64 < 64 := by omega
  obtain ⟨n0, hn0⟩ : ∃ n0, n0 = b0 % 64 := ⟨_, rfl⟩
  rw [← hn0] at hand hm6 hv
  clear hn0
  have hls : decide (l0.length < sz) = false := decide_eq_false (by omega)
  have hlz : (l0.length == 0) = false := beq_eq_false_iff_ne.2 (by omega)
  have hN := num_range n0 hm6.1 hm6.2 t hBt
  have hcells : ∀ k : Nat, k < t.length → ∃ a', A' = some a' ∧ w.cell? (a'.add k) = some (.int .u8 (rd t k)) := by
    intro k hk
    obtain ⟨a', e, h⟩ := Kd.at_int HT.out (k : Int) (by omega) (by omega)
    exact ⟨a', e, by rwa [Int.toNat_natCast] at h⟩
  have hl7 : t.length ≤ 7 := by omega
  have HV := Aside0.mk hv
  have HL := Aside0.mk htl
  have HB := Aside0.mk hBt
  have HN := Aside0.mk hN
  have HC := Aside0.mk hcells
  have HQ := Aside0.mk ht
  have HS := Aside0.mk hsh
  clear hv htl hBt hsz ht hB hN hcells HT hsz8
  rw [show (ad.add (0 : Int).toNat) = ad from rfl] at hcell
  have hun : IntKind.u64.wrap n0 = n0 := by simp [IntKind.wrap, IntKind.bits, IntKind.signed]; omega
  go_enter Tryd.func44, Tryd.ntmps44
  go_wp2
  clear hls hlz hun hand hqq hcell hcut
  go_loopg [5, 29] t.length (fun gg v5 v29 wr => ∃ kk : Nat, kk ≤ t.length ∧ t.length - kk ≤ gg ∧ v5 = .int .u64 (num n0 (t.take kk)) ∧ v29 = .int .i64 kk ∧ wr = w)
  case atStart => exact ⟨0, Nat.zero_le _, by omega, rfl, rfl, rfl⟩
  case round =>
    obtain ⟨kk, hkk, hg, rfl, rfl, rfl⟩ := hrel
    have hr := HN.out kk hkk
    by_cases hlt : kk < t.length
    · have hltz : (kk : Int) < (t.length : Int) := by omega
      obtain ⟨a', rfl, hc⟩ := HC.out kk hlt
      have hcb := bytes_rd HB.out kk hlt
      have hor := or_byte (num n0 (t.take kk)) (rd t kk) hr.1 (by have := pow256 kk (by omega); omega) hcb.1 hcb.2
      have hnt := num_take n0 t kk hlt
      rw [← hnt, show IntKind.u64.wrap (rd t kk) = rd t kk from by simp [IntKind.wrap, IntKind.bits, IntKind.signed]; omega] at hor
      generalize rd t kk = c at *
      have HNT := Aside0.mk hnt
      clear hnt
      go_wp2
      go_roundg (t.length - (kk + 1))
      case measure => omega
      case rel => exact ⟨kk + 1, by omega, by omega, rfl, by go_num, rfl⟩
    · have hltz : ¬ (kk : Int) < (t.length : Int) := by omega
      have hkl : kk = t.length := by omega
      rw [hkl, List.take_of_length_le (Nat.le_refl _)] at hr
      have hrange : num n0 t < 4611686018427387904 := by have := pow256' t.length (by omega); omega
      have hun : num n0 (t.take kk) = num n0 t := by rw [hkl, List.take_of_length_le (Nat.le_refl _)]
      rw [hun]
      have hw : wrap64 (num n0 t) = num n0 t := by unfold wrap64; omega
      have hcall := size_calls (num n0 t) wr
      clear hun hkl HN hl7
      generalize num n0 t = v at *
      by_cases he : vsize v = (sz : Int)
      · have hv := HV.out
        rw [if_pos he] at hv
        have b1 : (vsize v != wrap64 (2 ^ q)) = false := by rw [HS.out, he]; simp
        have HE := Aside0.mk he
        have HV2 := Aside0.mk hv
        clear he hv HV
        go_wp2_with (go_at_call 31; refine hcall.mono ?_; rintro e w' ⟨rfl, ⟨n, rfl⟩⟩)
        go_ret3
        exact ⟨by rw [HV2.out, ← HS.out]; rfl, ⟨⟨_, rfl⟩⟩⟩
      · have hv := HV.out
        rw [if_neg he] at hv
        have b1 : (vsize v != wrap64 (2 ^ q)) = true := by rw [HS.out]; simpa using he
        have HV2 := Aside0.mk hv
        clear he hv HV
        go_wp2_with (go_at_call 31; refine hcall.mono ?_; rintro e w' ⟨rfl, ⟨n, rfl⟩⟩)
        go_ret3
        exact ⟨by rw [HV2.out]; rfl, ⟨⟨_, rfl⟩⟩⟩
theorem varint_Read.calls (A0 : Option Addr) (c0 : Nat) (l0 : List Int) (r1 r2 r3 : Int) (w : World) (hr0 : Kd.C (Kd.int .u8) w A0 l0.length l0) (hc0 : l0.length ≤ c0) (h : varint_Read.f l0 = some (r1, r2, r3)) :
    Calls Tryd.prog 44 #[.slice A0 l0.length c0] w fun e w' => e = .returned (.tuple #[.int .i64 r1, .int .i64 r2, .int .i64 r3]) ∧ Drawn0 w w' := by
  unfold varint_Read.f at h
  by_cases hB : Bytes l0
  · rw [if_pos hB] at h
    have h' := Option.some.inj h
    obtain ⟨e1, e2, e3⟩ : r1 = (vread l0).1 ∧ r2 = (vread l0).2.1 ∧ r3 = (vread l0).2.2 := by rw [h']; exact ⟨rfl, rfl, rfl⟩
    subst e1 e2 e3
    clear h h'
    by_cases h0 : l0.length = 0
    · have hv : vread l0 = (0, 0, 2) := by unfold vread; rw [if_pos h0]
      rw [hv]
      have h1 : (l0.length == 0) = true := by simpa using h0
      clear hv h0 hr0 hB hc0
      go_enter Tryd.func44, Tryd.ntmps44
      go_wp2
      go_ret3
      exact ⟨rfl, Drawn0.refl _⟩
    · have hb0 : 0 ≤ rd l0 0 ∧ rd l0 0 ≤ 255 := bytes_rd hB 0 (by omega)
      obtain ⟨q, hq⟩ : ∃ q : Nat, rd l0 0 / 64 = (q : Int) := ⟨(rd l0 0 / 64).toNat, by omega⟩
      have hq4 : q < 4 := by omega
      by_cases hl : 2 ^ q ≤ l0.length
      · exact read_at q hq4 A0 c0 l0 w hr0 hc0 hB (by omega) hq hl
      · have hv : vread l0 = (0, 0, 2) := by unfold vread; rw [if_neg h0, hq, Int.toNat_natCast, if_pos (by omega)]
        rw [hv]
        obtain ⟨ad, rfl, hcell⟩ := Kd.at_int hr0 0 (by omega) (by omega)
        rw [show (ad.add (0 : Int).toNat) = ad from rfl] at hcell
        generalize rd l0 0 = b0 at *
        have hsh : wrap64 (2 ^ q) = ((2 ^ q : Nat) : Int) := by
          have : ∀ j : Fin 4, wrap64 (2 ^ (j : Nat)) = ((2 ^ (j : Nat) : Nat) : Int) := by decide +kernel
          exact this ⟨q, hq4⟩
        have hls : decide ((l0.length : Int) < wrap64 (2 ^ q)) = true := decide_eq_true (by rw [hsh]; omega)
        have hm := hr0.2.1
        have hpos : 0 < l0.length := by omega
        have hlz : (l0.length == 0) = false := beq_eq_false_iff_ne.2 h0
        clear hsh hv hl h0 hr0 hB hb0
        go_enter Tryd.func44, Tryd.ntmps44
        go_wp2
        go_ret3
        exact ⟨rfl, Drawn0.refl _⟩
  · rw [if_neg hB] at h; cases h
end Go.Proofs.YtpihkmpcnkhnfaaDoor.Gv
namespace Go.Proofs.YtpihkmpcnkhnfaaDoor.QVa
open Go.RowKit Go.Proofs.YtpihkmpcnkhnfaaDoorW.PrintWords Go.Proofs.YtpihkmpcnkhnfaaDoorW.PrintLast Go.Proofs.YtpihkmpcnkhnfaaDoorW.PrintMore
attribute [local go_sem] max2_int min2_int max_two min_two max_three min_three max_four min_four
set_option linter.unusedVariables false
set_option linter.unusedSimpArgs false
open Go.Proofs.YtpihkmpcnkhnfaaDoor.Gv (TB TB.below TB.alloc TB.drew TB.drewN bits_TrailingZeros.f bits_TrailingZeros.calls slices_Clone_byte_byte.f slices_Clone_byte_byte.calls varint_Size.f varint_Size.calls)
set_option hygiene false
local macro "pc20_" : term => `((if t104 = 0 then (some t101) else ((bits_TrailingZeros.f (IntKind.u64.wrap (t104))).bind fun t105 => (if 0 ≤ (wrap64 ((wrap64 (8 * t104)) - 2)) then (varint_Append.l0 k t101 (Go.bits .or .u64 (IntKind.u64.wrap (a1)) (shl .u64 (IntKind.u64.wrap (t105)) (wrap64 ((wrap64 (8 * t104)) - 2)))) (wrap64 (t104 - 1))) else (none)))))
local macro "pc21_" : term => `((by (try simp only [List.map_toArray, List.map_cons, List.map_nil]); first | done | rfl | (simp only [List.length_drop, List.length_take]; rfl)))
set_option hygiene true
def varint_Append.l0 : Nat → List Int → Int → Int → Option (List Int)
 | 0, _, _, _ => none
 | k + 1, x5, x8, x9 => if x9 ≥ 0 then (if 0 ≤ (wrap64 (8 * x9)) then (if x5.length < 140737488355328 then (varint_Append.l0 k (x5 ++ [(shr .u64 x8 (wrap64 (8 * x9))) % 256]) x8 (wrap64 (x9 - 1))) else (none)) else (none)) else (some x5)
def varint_Append.f (k : Nat) (l0 : List Int) (a1 : Int) : Option (List Int) := (slices_Clone_byte_byte.f l0).bind fun t101 => ((varint_Size.f a1).bind fun t104 => (pc20_))
theorem varint_Append.mono_l : ∀ k, (∀ y0 y1 y2, LeO (varint_Append.l0 k y0 y1 y2) (varint_Append.l0 (k + 1) y0 y1 y2))
 | 0 => fun _ _ _ r h => by simp [varint_Append.l0] at h
 | k + 1 => by
  have ih0 := varint_Append.mono_l k
  ·intro y0 y1 y2
   unfold varint_Append.l0
   repeat' first
   | (with_reducible exact ih0 _ _ _)
   | (with_reducible exact LeO.refl _)
   | (with_reducible exact LeO.none _)
   | (with_reducible refine LeO.ite ?_ ?_)
   | (with_reducible refine LeO.bind ?_ (fun _ => ?_))
   | exact ih0 _ _ _
   | exact LeO.none _
   | refine LeO.ite ?_ ?_
   | refine LeO.bind ?_ (fun _ => ?_)
theorem varint_Append.mono : ∀ a0 a1 k, LeO (varint_Append.f k a0 a1) (varint_Append.f (k + 1) a0 a1) := by
 intro a0 a1 k
 have ih0 := varint_Append.mono_l k
 unfold varint_Append.f
 repeat' first
   | (with_reducible exact ih0 _ _ _)
   | (with_reducible exact LeO.refl _)
   | (with_reducible exact LeO.none _)
   | (with_reducible refine LeO.ite ?_ ?_)
   | (with_reducible refine LeO.bind ?_ (fun _ => ?_))
   | exact ih0 _ _ _
   | exact LeO.none _
   | refine LeO.ite ?_ ?_
   | refine LeO.bind ?_ (fun _ => ?_)
set_option maxHeartbeats 8000000 in
set_option maxRecDepth 100000 in
theorem varint_Append.calls (k : Nat) (A0 : Option Addr) (c0 : Nat) (l0 : List Int) (a1 : Int) (r : List Int) (w : World) (hr0 : Kd.C (Kd.int .u8) w A0 l0.length l0) (hc0 : l0.length ≤ c0) (ht : TB w) (h : varint_Append.f k l0 a1 = some r) :
  Calls Tryd.prog 24 #[.slice A0 l0.length c0, .int .i64 a1] w fun e w' => ∃ v0_ : Value, e = .returned (v0_) ∧ Kd.R (Kd.int .u8) 5 w' w.heap.size (fun _ => True) v0_ r ∧ Below w.heap.size w w' := by
 have HT := Aside0.mk ht
 clear ht
 have HR0 := Aside0.mk hr0
 have HC0 := Aside0.mk hc0
 clear hr0 hc0
 have HB := Aside0.mk (Below.refl w.heap.size w)
 have H : ((slices_Clone_byte_byte.f l0).bind fun t101 => ((varint_Size.f a1).bind fun t104 => (pc20_))) = some r := h
 clear h
 replace H := Option.bind_eq_some_iff.mp H
 obtain ⟨t101, A30, H⟩ := H
 replace H : ((varint_Size.f a1).bind fun t104 => (pc20_)) = some r := H
 have A3 := Aside0.mk A30
 clear A30
 replace H := Option.bind_eq_some_iff.mp H
 obtain ⟨t104, A40, H⟩ := H
 replace H : (pc20_) = some r := H
 have A4 := Aside0.mk A40
 clear A40
 by_cases c5 : t104 = 0
 ·rw [if_pos c5] at H
  have c5b0 : (t104 == 0) = true := beq_iff_eq.mpr c5
  have c5b1 : (t104 != 0) = false := bne_eq_false_iff_eq.mpr c5
  clear c5
  obtain rfl := Option.some.inj H
  go_enter Tryd.func24, Tryd.ntmps24
  go_wp2_with (first | ((with_reducible refine gate_callee (f := 27) rfl ?_); refine goesL_ (some 11) rfl rfl Tryd.func27 (by kernel_rfl) rfl #[.slice A0 l0.length c0] rfl (pc21_) ?_; (with_reducible refine (slices_Clone_byte_byte.calls _ _ l0 t101 _ ?side1 ?side2 A3.out).mono ?_); (case side1 => repeat (first | exact HR0.out | (with_reducible refine Kd.C_alloc ?_ _) | (with_reducible refine Kd.C_drewN ?_ _) | (with_reducible refine Kd.C_drew ?_))); (case side2 => exact HC0.out); rintro e w6 ⟨v102, rfl, ho0, hb⟩; refine ⟨_, rfl, ?_⟩; have n0_ := Aside0.mk (Kd.R_lower ho0 (below_size (by qc0_))); have n1_ := Aside0.mk (below_step (by qc0_) hb); clear HB; have HO103 := n0_; have HB := n1_; clear n0_ n1_; (try clear hb); (try clear hb2); (try clear hk); (try clear hi); (try clear ho0)) | ((with_reducible refine gate_callee (f := 31) rfl ?_); refine goesL_ (some 13) rfl rfl Tryd.func31 (by kernel_rfl) rfl #[.int .i64 a1] rfl (pc21_) ?_; (with_reducible refine (varint_Size.calls a1 t104 _ A4.out).mono ?_); rintro e w' ⟨rfl, ⟨nd, rfl⟩⟩; refine ⟨_, rfl, ?_⟩))
  go_ret
  exact ⟨_, by first | rfl | (simp [errW_none, errW_some] <;> rfl) | (simp [*, errW_none, errW_some] <;> rfl), by qR_; exact HO103.out, by qc0_⟩
 ·rw [if_neg c5] at H
  have c5b0 : (t104 == 0) = false := beq_eq_false_iff_ne.mpr c5
  have c5b1 : (t104 != 0) = true := bne_iff_ne.mpr c5
  replace H := Option.bind_eq_some_iff.mp H
  obtain ⟨t105, A70, H⟩ := H
  replace H : (if 0 ≤ (wrap64 ((wrap64 (8 * t104)) - 2)) then (varint_Append.l0 k t101 (Go.bits .or .u64 (IntKind.u64.wrap (a1)) (shl .u64 (IntKind.u64.wrap (t105)) (wrap64 ((wrap64 (8 * t104)) - 2)))) (wrap64 (t104 - 1))) else (none)) = some r := H
  have A7 := Aside0.mk A70
  clear A70
  obtain ⟨ji8, hji8⟩ : ∃ j_ : Int, (wrap64 ((wrap64 (8 * t104)) - 2)) = j_ := ⟨_, rfl⟩
  replace H : (if 0 ≤ (ji8) then (varint_Append.l0 k t101 (Go.bits .or .u64 (IntKind.u64.wrap (a1)) (shl .u64 (IntKind.u64.wrap (t105)) (ji8))) (wrap64 (t104 - 1))) else (none)) = some r := by first | (rw [hji8] at H; exact H) | (simp only [hji8] at H ⊢; exact H)
  (try rw [hji8] at A3)
  (try rw [hji8] at A4)
  (try rw [hji8] at A7)
  have hji8w : (IntKind.i64.wrap ((wrap64 (8 * t104)) - 2)) = ji8 := (i64_w _).trans hji8
  by_cases c9 : 0 ≤ (ji8)
  ·rw [if_pos c9] at H
   have c9b0 := eq_true c9
   have c9b1 : decide (0 ≤ (ji8)) = true := decide_eq_true c9
   clear c9
   obtain ⟨ji10, hji10⟩ : ∃ j_ : Int, (shl .u64 (IntKind.u64.wrap (t105)) (ji8)) = j_ := ⟨_, rfl⟩
   replace H : (varint_Append.l0 k t101 (Go.bits .or .u64 (IntKind.u64.wrap (a1)) (ji10)) (wrap64 (t104 - 1))) = some r := by first | (rw [hji10] at H; exact H) | (simp only [hji10] at H ⊢; exact H)
   (try rw [hji10] at A3)
   (try rw [hji10] at A4)
   (try rw [hji10] at A7)
   have hji10_ : (IntKind.u64.wrap ((IntKind.u64.wrap (t105)) * 2 ^ min (ji8).toNat 64)) = ji10 := hji10
   have hji10z : (ji8) ≤ 64 → (IntKind.u64.wrap ((IntKind.u64.wrap (t105)) * 2 ^ (ji8).toNat)) = ji10 := shl_small hji10
   have H' := Aside0.mk H
   clear H
   go_enter Tryd.func24, Tryd.ntmps24
   go_wp2_with (first | ((with_reducible refine gate_callee (f := 27) rfl ?_); refine goesL_ (some 11) rfl rfl Tryd.func27 (by kernel_rfl) rfl #[.slice A0 l0.length c0] rfl (pc21_) ?_; (with_reducible refine (slices_Clone_byte_byte.calls _ _ l0 t101 _ ?side1 ?side2 A3.out).mono ?_); (case side1 => repeat (first | exact HR0.out | (with_reducible refine Kd.C_alloc ?_ _) | (with_reducible refine Kd.C_drewN ?_ _) | (with_reducible refine Kd.C_drew ?_))); (case side2 => exact HC0.out); rintro e w11 ⟨v102, rfl, ho0, hb⟩; refine ⟨_, rfl, ?_⟩; have n0_ := Aside0.mk (Kd.R_lower ho0 (below_size (by qc0_))); have n1_ := Aside0.mk (below_step (by qc0_) hb); clear HB; have HO103 := n0_; have HB := n1_; clear n0_ n1_; (try clear hb); (try clear hb2); (try clear hk); (try clear hi); (try clear ho0)) | ((with_reducible refine gate_callee (f := 31) rfl ?_); refine goesL_ (some 13) rfl rfl Tryd.func31 (by kernel_rfl) rfl #[.int .i64 a1] rfl (pc21_) ?_; (with_reducible refine (varint_Size.calls a1 t104 _ A4.out).mono ?_); rintro e w' ⟨rfl, ⟨nd, rfl⟩⟩; refine ⟨_, rfl, ?_⟩) | ((with_reducible refine gate_callee (f := 32) rfl ?_); refine goesL_ (some 19) rfl rfl Tryd.func32 (by kernel_rfl) rfl #[.int .u64 (IntKind.u64.wrap (t104))] rfl (pc21_) ?_; (with_reducible refine (bits_TrailingZeros.calls (IntKind.u64.wrap (t104)) t105 _ ?sideT A7.out).mono ?_); (case sideT => repeat (first | exact HT.out | exact TB.below HT.out HB.out | exact TB.below HT.out HBW.out | (with_reducible refine TB.alloc ?_ _) | (with_reducible refine TB.drewN ?_ _) | (with_reducible refine TB.drew ?_))); rintro e w' ⟨rfl, ⟨nd, rfl⟩⟩; refine ⟨_, rfl, ?_⟩))
   go_loopg [5, 9] k (fun kq v5 v9 w' => ∃ (x5_1 : List Int) (x9_1 : Int), v9 = .int .i64 x9_1 ∧ Aside0 (varint_Append.l0 kq x5_1 (Go.bits .or .u64 (IntKind.u64.wrap (a1)) (ji10)) x9_1 = some r) ∧ Aside0 (kq ≤ k) ∧ Aside0 (Kd.R (Kd.int .u8) 5 w' w.heap.size (fun _ => True) v5 x5_1) ∧ Aside0 (Below w.heap.size w w'))
   case atStart => exact ⟨(t101), (wrap64 (t104 - 1)), (by first | rfl | (simp; done) | (simp [*]; done)), H', ⟨Nat.le_refl _⟩, ⟨by qR_; exact HO103.out⟩, ⟨by qc0_⟩⟩
   case round =>
    clear H'
    try clear c2
    try clear p2
    try clear c3
    try clear c5
    try clear c5b0
    try clear c5b1
    try clear p6
    try clear c9
    try clear c9b0
    try clear c9b1
    obtain ⟨x5_1, x9_1, rfl, HA, HK1, HO_5, HB⟩ := hrel
    cases gk with
    | zero => exact absurd HA.out (by simp [varint_Append.l0])
    | succ k1 =>
     have H := HA.out
     clear HA
     simp only [varint_Append.l0] at H
     by_cases c12 : x9_1 ≥ 0
     ·rw [if_pos c12] at H
      have c12b0 : decide (0 ≤ x9_1) = true := decide_eq_true c12
      clear c12
      obtain ⟨ji13, hji13⟩ : ∃ j_ : Int, (wrap64 (8 * x9_1)) = j_ := ⟨_, rfl⟩
      replace H : (if 0 ≤ (ji13) then (if x5_1.length < 140737488355328 then (varint_Append.l0 k1 (x5_1 ++ [(shr .u64 (Go.bits .or .u64 (IntKind.u64.wrap (a1)) (ji10)) (ji13)) % 256]) (Go.bits .or .u64 (IntKind.u64.wrap (a1)) (ji10)) (wrap64 (x9_1 - 1))) else (none)) else (none)) = some r := by first | (rw [hji13] at H; exact H) | (simp only [hji13] at H ⊢; exact H)
      have hji13w : (IntKind.i64.wrap (8 * x9_1)) = ji13 := (i64_w _).trans hji13
      by_cases c14 : 0 ≤ (ji13)
      ·rw [if_pos c14] at H
       have c14b0 := eq_true c14
       have c14b1 : decide (0 ≤ (ji13)) = true := decide_eq_true c14
       clear c14
       obtain ⟨ji15, hji15⟩ : ∃ j_ : Int, (shr .u64 (Go.bits .or .u64 (IntKind.u64.wrap (a1)) (ji10)) (ji13)) = j_ := ⟨_, rfl⟩
       replace H : (if x5_1.length < 140737488355328 then (varint_Append.l0 k1 (x5_1 ++ [(ji15) % 256]) (Go.bits .or .u64 (IntKind.u64.wrap (a1)) (ji10)) (wrap64 (x9_1 - 1))) else (none)) = some r := by first | (rw [hji15] at H; exact H) | (simp only [hji15] at H ⊢; exact H)
       have hji15_ : ((Go.bits .or .u64 (IntKind.u64.wrap (a1)) (ji10)) / 2 ^ min (ji13).toNat 64) = ji15 := hji15
       have hji15z : (ji13) ≤ 64 → ((Go.bits .or .u64 (IntKind.u64.wrap (a1)) (ji10)) / 2 ^ (ji13).toNat) = ji15 := shr_small hji15
       by_cases c16 : x5_1.length < 140737488355328
       ·rw [if_pos c16] at H
        have LMc16 := Aside0.mk c16
        clear c16
        obtain ⟨y106, hy106⟩ : ∃ y_ : List Int, y_ = (x5_1 ++ [(ji15) % 256]) := ⟨_, rfl⟩
        replace H : (varint_Append.l0 k1 y106 (Go.bits .or .u64 (IntKind.u64.wrap (a1)) (ji10)) (wrap64 (x9_1 - 1))) = some r := by first | (rw [hy106]; with_reducible exact H) | (have H2_ := (Option.bind_some _ _).symm.trans H; rw [hy106]; with_reducible exact H2_) | (have H2_ := (Option.bind_some _ _).symm.trans H; with_reducible exact H2_) | with_reducible exact H | (rw [hy106]; exact H) | exact H
        have Ny106 := Aside0.mk hy106
        clear hy106
        have H' := Aside0.mk H
        clear H
        go_wp2_with (first | ((with_reducible refine gate_builtin (b := .append) (xs := #[.tmp 35, .tmp 41]) rfl ?_); at_builtin; refine Kd.R_append (Kd.int .u8) (w0 := w) w.heap.size rfl (.tmp 35) (.tmp 41) 22 5 (.int .u8 0) 1 rfl Tryd.underlying22 info5 rfl (by decide) (by omega) u5 x5_1 ((ji15) % 256) [.int .u8 ((ji15) % 256)] (fun _ => True) (fun _ => False) rfl rfl ?aP (fun _ hk => hk.elim) ?aF ?aO ?aB ?aS ?aL ?_; (case aP => exact rfl); (case aB => exact (by qc0_)); (case aF => exact (fun _ _ => trivial)); (case aO => exact (by qR_; exact HO_5.out)); (case aS => exact (below_size (by qc0_))); (case aL => have := LMc16.out; omega); intro v107 w17 ho hb hg hat; rw [← Ny106.out] at ho; have n0_ := Aside0.mk (hb); have n1_ := Aside0.mk (ho); clear HB; clear HO_5; have HB := n0_; have HO108 := n1_; clear n0_ n1_; clear ho hb hg hat))
        go_roundg k1
        case measure => have := HK1.out; omega
        case rel => exact ⟨(y106), (wrap64 (x9_1 - 1)), (by first | rfl | (simp; done) | (simp [*]; done)), H', ⟨by have := HK1.out; omega⟩, ⟨by qR_; exact HO108.out⟩, ⟨by qc0_⟩⟩
       ·rw [if_neg c16] at H
        exact absurd H (by simp)
      ·rw [if_neg c14] at H
       exact absurd H (by simp)
     ·rw [if_neg c12] at H
      have c12b0 : decide (0 ≤ x9_1) = false := decide_eq_false c12
      clear c12
      obtain rfl := Option.some.inj H
      go_wp2
      go_ret
      exact ⟨_, by first | rfl | (simp [errW_none, errW_some] <;> rfl) | (simp only [← hji8, ← hji10]; first | rfl | (simp [errW_none, errW_some] <;> rfl)) | (simp [*, errW_none, errW_some] <;> rfl), by qR_; exact HO_5.out, by qc0_⟩
  ·rw [if_neg c9] at H
   exact absurd H (by simp)
def varint_Give.f (k : Nat) (l0 : List Int) (l1 : List Int) : Option (List Int) := (varint_Append.f k l0 (l1.length : Int)).bind fun t109 => (if t109.length + l1.length < 140737488355328 then (some (t109 ++ l1)) else (none))
theorem varint_Give.mono : ∀ a0 a1 k, LeO (varint_Give.f k a0 a1) (varint_Give.f (k + 1) a0 a1) := by
 intro a0 a1 k
 unfold varint_Give.f
 repeat' first
   | (with_reducible exact varint_Append.mono _ _ _)
   | (with_reducible exact LeO.refl _)
   | (with_reducible exact LeO.none _)
   | (with_reducible refine LeO.ite ?_ ?_)
   | (with_reducible refine LeO.bind ?_ (fun _ => ?_))
   | exact varint_Append.mono _ _ _
   | exact LeO.none _
   | refine LeO.ite ?_ ?_
   | refine LeO.bind ?_ (fun _ => ?_)
set_option maxHeartbeats 8000000 in
set_option maxRecDepth 100000 in
theorem varint_Give.calls (k : Nat) (A0 : Option Addr) (c0 : Nat) (l0 : List Int) (A1 : Option Addr) (c1 : Nat) (l1 : List Int) (r : List Int) (w : World) (hr0 : Kd.C (Kd.int .u8) w A0 l0.length l0) (hc0 : l0.length ≤ c0) (hr1 : Kd.C (Kd.int .u8) w A1 l1.length l1) (hc1 : l1.length ≤ c1) (ht : TB w) (h : varint_Give.f k l0 l1 = some r) :
  Calls Tryd.prog 23 #[.slice A0 l0.length c0, .slice A1 l1.length c1] w fun e w' => ∃ v0_ : Value, e = .returned (v0_) ∧ Kd.R (Kd.int .u8) 5 w' w.heap.size (fun _ => True) v0_ r ∧ Below w.heap.size w w' := by
 have HT := Aside0.mk ht
 clear ht
 have HR0 := Aside0.mk hr0
 have HC0 := Aside0.mk hc0
 clear hr0 hc0
 have HR1 := Aside0.mk hr1
 have HC1 := Aside0.mk hc1
 clear hr1 hc1
 have HB := Aside0.mk (Below.refl w.heap.size w)
 have H : ((varint_Append.f k l0 (l1.length : Int)).bind fun t109 => (if t109.length + l1.length < 140737488355328 then (some (t109 ++ l1)) else (none))) = some r := h
 clear h
 replace H := Option.bind_eq_some_iff.mp H
 obtain ⟨t109, A30, H⟩ := H
 replace H : (if t109.length + l1.length < 140737488355328 then (some (t109 ++ l1)) else (none)) = some r := H
 have A3 := Aside0.mk A30
 clear A30
 by_cases c4 : t109.length + l1.length < 140737488355328
 ·rw [if_pos c4] at H
  have LMc4 := Aside0.mk c4
  clear c4
  obtain ⟨y112, hy112⟩ : ∃ y_ : List Int, y_ = (t109 ++ l1) := ⟨_, rfl⟩
  replace H : (some y112) = some r := by first | (rw [hy112]; with_reducible exact H) | (have H2_ := (Option.bind_some _ _).symm.trans H; rw [hy112]; with_reducible exact H2_) | (have H2_ := (Option.bind_some _ _).symm.trans H; with_reducible exact H2_) | with_reducible exact H | (rw [hy112]; exact H) | exact H
  have Ny112 := Aside0.mk hy112
  clear hy112
  obtain rfl := Option.some.inj H
  go_enter Tryd.func23, Tryd.ntmps23
  go_wp2_with (first | ((with_reducible refine gate_callee (f := 24) rfl ?_); refine goesL_ (some 8) rfl rfl Tryd.func24 (by kernel_rfl) rfl #[.slice A0 l0.length c0, .int .i64 (l1.length : Int)] rfl (pc21_) ?_; (with_reducible refine (varint_Append.calls k _ _ l0 (l1.length : Int) t109 _ ?side1 ?side2 ?sideT A3.out).mono ?_); (case sideT => repeat (first | exact HT.out | exact TB.below HT.out HB.out | exact TB.below HT.out HBW.out | (with_reducible refine TB.alloc ?_ _) | (with_reducible refine TB.drewN ?_ _) | (with_reducible refine TB.drew ?_))); (case side1 => repeat (first | exact HR0.out | (with_reducible refine Kd.C_alloc ?_ _) | (with_reducible refine Kd.C_drewN ?_ _) | (with_reducible refine Kd.C_drew ?_))); (case side2 => exact HC0.out); rintro e w5 ⟨v110, rfl, ho0, hb⟩; refine ⟨_, rfl, ?_⟩; have n0_ := Aside0.mk (Kd.R_lower ho0 (below_size (by qc0_))); have n1_ := Aside0.mk (below_step (by qc0_) hb); clear HB; have HO111 := n0_; have HB := n1_; clear n0_ n1_; (try clear hb); (try clear hb2); (try clear hk); (try clear hi); (try clear ho0)) | ((with_reducible refine gate_builtin (b := .append) (xs := #[.tmp 8, .tmp 9]) rfl ?_); at_builtin; refine Kd.R_append_rows (Kd.int .u8) (w0 := w) w.heap.size rfl (.tmp 8) (.tmp 9) 22 5 (.int .u8 0) 1 rfl Tryd.underlying22 info5 rfl (by decide) (by omega) v110 t109 l1 _ _ _ (fun _ => True) (fun _ => False) rfl rfl ?aO ?aR (fun _ _ h => h) (fun _ h => h.elim) ?aF ?aB ?aS ?aL ?_; (case aR => repeat (first | exact (Kd.C_below HR1.out HB.out) | exact HR1.out | (with_reducible refine Kd.C_alloc ?_ _) | (with_reducible refine Kd.C_drewN ?_ _) | (with_reducible refine Kd.C_drew ?_))); (case aB => exact (by qc0_)); (case aF => exact (fun _ _ => trivial)); (case aO => exact (by qR_; exact HO111.out)); (case aS => exact (below_size (by qc0_))); (case aL => have := LMc4.out; omega); intro v113 w6 ho hb hg hat; rw [← Ny112.out] at ho; have n0_ := Aside0.mk (hb); have n1_ := Aside0.mk (ho); clear HB; clear HO111; have HB := n0_; have HO114 := n1_; clear n0_ n1_; clear ho hb hg hat))
  go_ret
  exact ⟨_, by first | rfl | (simp [errW_none, errW_some] <;> rfl) | (simp [*, errW_none, errW_some] <;> rfl), by qR_; exact HO114.out, by qc0_⟩
 ·rw [if_neg c4] at H
  exact absurd H (by simp)
end Go.Proofs.YtpihkmpcnkhnfaaDoor.QVa
namespace Go.Proofs.YtpihkmpcnkhnfaaDoor.Gw
open Go.RowKit Go.Proofs.YtpihkmpcnkhnfaaDoorW.PrintWords Go.Proofs.YtpihkmpcnkhnfaaDoorW.PrintLast Go.Proofs.YtpihkmpcnkhnfaaDoorW.PrintMore Go.Proofs.YtpihkmpcnkhnfaaDoor.Gv
set_option linter.unusedVariables false
set_option linter.unusedSimpArgs false
theorem own_empty (w : World) (c : Array Value) (cap : Nat) (hs : c.size = cap) (hc : cap ≤ maxLen) :
    Kd.R (Kd.int .u8) 5 (w.drew.alloc (.cells c 5)) w.heap.size (fun _ => True) (.slice (some ⟨w.heap.size, 0, none⟩) 0 cap) [] := by
  refine Kd.R_of_own (h1 := fun _ => rfl) (enc := Value.int .u8) (xs := []) (ok := fun _ => True) ⟨rfl, .inr ⟨w.heap.size, cap, c, rfl, Nat.le_refl _, heap_alloc_new w.drew _, Nat.zero_le _, hc, by simpa using hs, rfl⟩⟩ (fun _ _ => trivial)
set_option maxHeartbeats 1000000 in
theorem grow_nil (n : Nat) (w : World) (hn : n ≤ 140737488355328) :
    Calls Tryd.prog 30 #[.slice none 0 0, .int .i64 n] w fun e w' => ∃ v0_ : Value, e = .returned (v0_) ∧ Kd.R (Kd.int .u8) 5 w' w.heap.size (fun _ => True) v0_ [] ∧ Below w.heap.size w w' := by
  have HB := Aside0.mk (Below.refl w.heap.size w)
  rcases Nat.eq_zero_or_pos n with h0 | h0
  · subst h0
    go_enter Tryd.func30, Tryd.ntmps30
    go_wp2
    go_ret
    exact ⟨_, rfl, Kd.R_nil _ _ _ _ _, HB.out⟩
  · have hc := grownCap_ge w n 0 5
    have hm := grownCap_le_maxLen w n 0 5 (by simp only [maxLen]; omega)
    have HO := Aside0.mk (own_empty w (Builtin.zeroCells #[Value.int .u8 0] n ++ Builtin.zeroCells #[Value.int .u8 0] (grownCap w n 0 5 - n)) (grownCap w n 0 5) (by simp [size_zeroCells]; omega) hm)
    clear hc hm
    have hb : Tryd.t5.bytes = 1 := by kernel_rfl
    have f1 : ¬ (281474976710656 < (n : Int) * (Tryd.t5.bytes : Int)) := by rw [hb]; omega
    have f3 : ¬ (281474976710656 < Builtin.nextslicecap n 0 * Tryd.t5.bytes) := by rw [nextslicecap_zero h0, hb]; omega
    clear hb
    go_enter Tryd.func30, Tryd.ntmps30
    go_wp2
    all_goals first | contradiction | skip
    go_ret
    exact ⟨_, rfl, HO.out, below_alloc (below_drew HB.out) _⟩
end Go.Proofs.YtpihkmpcnkhnfaaDoor.Gw
namespace Go.Proofs.YtpihkmpcnkhnfaaDoor.Gw
open Go.RowKit Go.Proofs.YtpihkmpcnkhnfaaDoorW.PrintWords Go.Proofs.YtpihkmpcnkhnfaaDoorW.PrintLast Go.Proofs.YtpihkmpcnkhnfaaDoorW.PrintMore Go.Proofs.YtpihkmpcnkhnfaaDoor.Gv
set_option linter.unusedVariables false
set_option linter.unusedSimpArgs false
theorem at_rows {w : World} {A : Option Addr} {n : Nat} {xs : List (List Int)} (h : Kd.C (Kd.slice 5 (Kd.int .u8)) w A n xs) (i : Nat) (h1 : i < n) : ∃ ad A0 c0, A = some ad ∧ w.cell? (ad.add i) = some (.slice A0 (xs.getD i []).length c0) ∧ (xs.getD i []).length ≤ c0 ∧ (Kd.int .u8).C w A0 (xs.getD i []).length (xs.getD i []) := by
  obtain ⟨ad, c, e, _, hK, hc0⟩ := Kd.C_get h ([] : List Int) (i : Int) (by omega) (by omega)
  rw [Int.toNat_natCast] at hK hc0
  have hc : ∀ j u, c[j]? = some u → w.cell? (ad.add (i * 1 + j)) = some u := hc0
  obtain ⟨A0, c0, rfl, l0, g0⟩ := hK
  exact ⟨ad, A0, c0, e, by have hq := hc 0 _ rfl; rwa [Nat.mul_one, Nat.add_zero] at hq, l0, g0⟩
def front (y : List (List Int)) (k : Nat) : List Int := (y.take k).flatten
theorem front_all (y : List (List Int)) (k : Nat) (h : y.length ≤ k) : front y k = y.flatten := by unfold front; rw [List.take_of_length_le h]
theorem front_succ (y : List (List Int)) (k : Nat) (h : k < y.length) : front y (k + 1) = front y k ++ y.getD k [] := by
  unfold front
  rw [List.take_succ_eq_append_getElem h, List.flatten_append, List.getD_eq_getElem?_getD, List.getElem?_eq_getElem h]
  simp
theorem front_le (y : List (List Int)) (k : Nat) : (front y k).length ≤ y.flatten.length := by
  unfold front
  conv => rhs; rw [← List.take_append_drop k y, List.flatten_append, List.length_append]
  omega
def slices_Concat_byte_byte.f (y : List (List Int)) : Option (List Int) := if y.flatten.length ≤ 140737488355328 then some y.flatten else none
set_option maxHeartbeats 1000000 in
theorem slices_Concat_byte_byte.calls (A0 : Option Addr) (c0 : Nat) (y : List (List Int)) (r : List Int) (w : World) (hr0 : Kd.C (Kd.slice 5 (Kd.int .u8)) w A0 y.length y) (hc0 : y.length ≤ c0) (h : slices_Concat_byte_byte.f y = some r) :
    Calls Tryd.prog 20 #[.slice A0 y.length c0] w fun e w' => ∃ v0_ : Value, e = .returned (v0_) ∧ Kd.R (Kd.int .u8) 5 w' w.heap.size (fun _ => True) v0_ r ∧ Below w.heap.size w w' := by
  unfold slices_Concat_byte_byte.f at h
  by_cases hl : y.flatten.length ≤ 140737488355328
  · rw [if_pos hl] at h
    obtain rfl := Option.some.inj h
    clear h
    have hm := hr0.2.1
    have HR := Aside0.mk hr0
    have HL := Aside0.mk hl
    have HF := Aside0.mk (front_le y)
    clear hr0 hl hc0
    go_enter Tryd.func20, Tryd.ntmps20
    go_wp2
    go_loopg [3, 11] y.length (fun gg v3 v11 wr => ∃ kk : Nat, kk ≤ y.length ∧ y.length - kk ≤ gg ∧ v3 = .int .i64 ((front y kk).length : Nat) ∧ v11 = .int .i64 kk ∧ wr = w)
    case atStart => exact ⟨0, Nat.zero_le _, by omega, rfl, rfl, rfl⟩
    case round =>
      obtain ⟨kk, hkk, hg, rfl, rfl, hw⟩ := hrel
      subst wr
      have hf := HF.out kk
      have hfl := HL.out
      by_cases hlt : kk < y.length
      · have hltz : (kk : Int) < (y.length : Int) := by omega
        obtain ⟨ad, A', c', rfl, hcell, hle, hC⟩ := at_rows HR.out kk hlt
        have hs := front_succ y kk hlt
        have hf1 := HF.out (kk + 1)
        have hs1 : (front y (kk + 1)).length = (front y kk).length + (y.getD kk []).length := by rw [hs, List.length_append]
        have hlen : ((front y kk).length : Int) + ((y.getD kk []).length : Int) = ((front y (kk + 1)).length : Int) := by rw [hs1]; omega
        have hwr : wrap64 (((front y kk).length : Int) + ((y.getD kk []).length : Int)) = ((front y (kk + 1)).length : Int) := by rw [hlen]; unfold wrap64; omega
        have HX := Aside0.mk hwr
        have hz : decide (wrap64 (((front y kk).length : Int) + ((y.getD kk []).length : Int)) < 0) = false := decide_eq_false (by rw [hwr]; omega)
        clear hs hs1 hC hle hlen hwr
        generalize y.getD kk [] = el at *
        go_wp2
        go_roundg (y.length - (kk + 1))
        case measure => omega
        case rel => exact ⟨kk + 1, by omega, by omega, by rw [HX.out], by go_num, rfl⟩
      · have hltz : ¬ (kk : Int) < (y.length : Int) := by omega
        have H := grow_nil (front y kk).length w (by omega)
        go_wp2_with (go_at_call 30; refine H.mono ?_; rintro e w' ⟨v0, rfl, HO, hb⟩)
        clear H hf hltz hlt hkk hg
        have HO' := Aside0.mk HO
        have HB' := Aside0.mk hb
        clear HO hb
        go_loopg [6, 27] y.length (fun gg v6 v27 ws => ∃ jj : Nat, jj ≤ y.length ∧ y.length - jj ≤ gg ∧ v27 = .int .i64 jj ∧ Kd.R (Kd.int .u8) 5 ws w.heap.size (fun _ => True) v6 (front y jj) ∧ Below w.heap.size w ws)
        case atStart => exact ⟨0, Nat.zero_le _, by omega, rfl, HO'.out, HB'.out⟩
        case round =>
          clear HO' HB'
          obtain ⟨jj, hjj, hg, rfl, HO, HB⟩ := hrel
          have hfl := HL.out
          by_cases hlt : jj < y.length
          · have hltz : (jj : Int) < (y.length : Int) := by omega
            obtain ⟨ad, A', c', rfl, hcell0, hle, hC0⟩ := at_rows HR.out jj hlt
            have hC := Aside0.mk (Kd.C_below hC0 HB)
            have hcell := pw_cell_below HB hcell0
            have hs := front_succ y jj hlt
            have hf1 := HF.out (jj + 1)
            have hs1 : (front y (jj + 1)).length = (front y jj).length + (y.getD jj []).length := by rw [hs, List.length_append]
            have HS := Aside0.mk hs
            have HL2 := Aside0.mk (show (front y jj).length + (y.getD jj []).length ≤ 140737488355328 by omega)
            have hbs := Aside0.mk (below_size HB)
            have HO' := Aside0.mk HO
            have HB' := Aside0.mk HB
            clear hs hs1 hC0 hle HO HB hcell0 hfl hf1
            generalize y.getD jj [] = el at *
            go_wp2_with ((with_reducible refine gate_builtin (b := .append) (xs := #[.tmp 31, .tmp 32]) rfl ?_); at_builtin; refine Kd.R_append_rows (Kd.int .u8) (w0 := w) w.heap.size rfl (.tmp 31) (.tmp 32) 22 5 (.int .u8 0) 1 rfl Tryd.underlying22 info5 rfl (by decide) (by omega) _ (front y jj) el _ _ _ (fun _ => True) (fun _ => False) rfl rfl ?aO ?aR (fun _ _ h => h) (fun _ h => h.elim) ?aF ?aB ?aS ?aL ?_; (case aO => exact HO'.out); (case aR => exact hC.out); (case aB => exact HB'.out); (case aF => exact (fun _ _ => trivial)); (case aS => exact hbs.out); (case aL => simpa using HL2.out); intro v w5 ho hb hg' hat)
            go_roundg (y.length - (jj + 1))
            case measure => omega
            case rel => exact ⟨jj + 1, by omega, by omega, by go_num, by rw [HS.out]; exact ho, hb⟩
          · have hltz : ¬ (jj : Int) < (y.length : Int) := by omega
            rw [front_all y jj (by omega)] at HO
            have HO' := Aside0.mk HO
            have HB' := Aside0.mk HB
            clear HO HB
            go_wp2
            go_ret
            exact ⟨_, rfl, HO'.out, HB'.out⟩
  · rw [if_neg hl] at h; cases h
end Go.Proofs.YtpihkmpcnkhnfaaDoor.Gw
namespace Go.Proofs.YtpihkmpcnkhnfaaDoor.Onl
open Go Go.RowKit Go.Proofs.YtpihkmpcnkhnfaaDoorW.PrintWords
set_option linter.unusedVariables false
structure Only (p : Nat → Prop) (w w' : World) : Prop where
  os : w'.os = w.os
  tape : w'.tape = w.tape
  output : w'.output = w.output
  size : w.heap.size ≤ w'.heap.size
  block : ∀ k, k < w.heap.size → ¬ p k → w'.heap[k]? = w.heap[k]?
theorem Only.refl (p : Nat → Prop) (w : World) : Only p w w := ⟨rfl, rfl, rfl, Nat.le_refl _, fun _ _ _ => rfl⟩
theorem Only.trans {p : Nat → Prop} {a b c : World} (h : Only p a b) (k : Only p b c) : Only p a c :=
  ⟨k.os.trans h.os, k.tape.trans h.tape, k.output.trans h.output, Nat.le_trans h.size k.size, fun i hi hp => (k.block i (Nat.lt_of_lt_of_le hi h.size) hp).trans (h.block i hi hp)⟩
theorem Only.imp {p q : Nat → Prop} {w w' : World} (h : Only p w w') (hq : ∀ k, k < w.heap.size → p k → q k) : Only q w w' :=
  ⟨h.os, h.tape, h.output, h.size, fun k hk hn => h.block k hk (fun hp => hn (hq k hk hp))⟩
theorem Only.alloc {p : Nat → Prop} {a w : World} (h : Only p a w) (o : Obj) : Only p a (w.alloc o) :=
  ⟨h.os, h.tape, h.output, Nat.le_trans h.size (by simp), fun k hk hp => (Below.heap_alloc _ _ _ (Nat.lt_of_lt_of_le hk h.size)).trans (h.block k hk hp)⟩
theorem Only.drew {p : Nat → Prop} {a w : World} (h : Only p a w) : Only p a w.drew := ⟨h.os, h.tape, h.output, h.size, h.block⟩
theorem Only.drewN {p : Nat → Prop} {a w : World} (h : Only p a w) (n : Nat) : Only p a (w.drewN n) := ⟨h.os, h.tape, h.output, h.size, h.block⟩
theorem Only.setCell {p : Nat → Prop} {a w : World} (h : Only p a w) {ad : Addr} (hp : p ad.block) (u : Value) : Only p a (w.setCell ad u) :=
  ⟨h.os, h.tape, h.output, Nat.le_trans h.size (by simp [World.setCell]), fun k hk hn => (Below.heap_setCell _ _ _ _ (fun e => hn (by rw [e]; exact hp))).trans (h.block k hk hn)⟩
theorem Only.setNew {p : Nat → Prop} {a w : World} (h : Only p a w) {ad : Addr} (hp : a.heap.size ≤ ad.block) (u : Value) : Only p a (w.setCell ad u) :=
  ⟨h.os, h.tape, h.output, Nat.le_trans h.size (by simp [World.setCell]), fun k hk hn => (Below.heap_setCell _ _ _ _ (by omega)).trans (h.block k hk hn)⟩
theorem Only.grown {p : Nat → Prop} {a w w' : World} {row : Option Nat} (h : Only p a w) (hg : w.grownBy w' row) (hr : ∀ k, row = some k → p k ∨ a.heap.size ≤ k) : Only p a w' :=
  ⟨hg.os.trans h.os, hg.tape.trans h.tape, hg.output.trans h.output, Nat.le_trans h.size hg.size, fun k hk hn => (hg.block k (Nat.lt_of_lt_of_le hk h.size) (fun e => (hr k e.symm).elim hn (by omega))).trans (h.block k hk hn)⟩
theorem Only.below {p : Nat → Prop} {w w' : World} {B : Nat} (h : Only p w w') (hB : B ≤ w.heap.size) (hp : ∀ k, p k → B ≤ k) : Below B w w' :=
  ⟨h.os, h.tape, h.output, h.size, fun k hk => h.block k (by omega) (fun e => by have := hp k e; omega)⟩
theorem Only.of_below {p : Nat → Prop} {w w' : World} (h : Below w.heap.size w w') : Only p w w' := ⟨h.os, h.tape, h.output, h.size, fun k hk _ => h.block k hk⟩
theorem Only.cell {p : Nat → Prop} {w w' : World} (h : Only p w w') {ad : Addr} (hn : ¬ p ad.block) {v : Value} (hc : w.cell? ad = some v) : w'.cell? ad = some v := by
  have hlt : ad.block < w.heap.size := World.block_lt_of_cell? w ad hc
  exact (World.cell?_of_block (h.block _ hlt hn)).trans hc
theorem Only.reads {p : Nat → Prop} {w w' : World} (h : Only p w w') {k : IntKind} {A : Option Addr} {xs : List Int} (hC : (Kd.int k).C w A xs.length xs) (hn : ∀ ad, A = some ad → ¬ p ad.block) : (Kd.int k).C w' A xs.length xs := by
  refine ⟨hC.1, hC.2.1, fun hl => ?_⟩
  obtain ⟨ad, e, hc⟩ := hC.2.2 hl
  refine ⟨ad, e, fun j q hj => ?_⟩
  obtain ⟨c, h1, h2, h3⟩ := hc j q hj
  exact ⟨c, h1, h2, fun i u hu => h.cell (ad := ad.add (j * (Kd.int k).sz + i)) (by have := hn ad e; unfold Addr.add; split <;> exact this) (h3 i u hu)⟩
end Go.Proofs.YtpihkmpcnkhnfaaDoor.Onl
namespace Go.Proofs.YtpihkmpcnkhnfaaDoor.Hr
open Go Go.RowKit Go.Proofs.YtpihkmpcnkhnfaaDoorW.PrintWords Go.Proofs.YtpihkmpcnkhnfaaDoorW.PrintLast Go.Proofs.YtpihkmpcnkhnfaaDoorW.PrintMore
open Go.Proofs.YtpihkmpcnkhnfaaDoor.Onl (Only)
open Go.Proofs.YtpihkmpcnkhnfaaDoor.Gv (slices_Clone_byte_byte.f slices_Clone_byte_byte.calls)
set_option linter.unusedVariables false
set_option linter.unusedSimpArgs false
theorem info5 : (Tryd.prog.info? 5).map (fun i => (i.zero, i.size, i.bytes)) = some (some (.int .u8 0), 1, 1) := by kernel_rfl
def wrong (e : Int) : List PanicEntry := [{ v := .iface 71 (.agg #[.int .i64 e]), recovered := false }]
theorem need_ok (w : World) (e : Int) : Calls Tryd.prog 39 #[.bool true, .int .i64 e] w fun en w' => en = .returned (.tuple #[]) ∧ w = w' := by
  go_enter Tryd.func39, Tryd.ntmps39
  go_wp2
  go_end0
  exact ⟨rfl, rfl⟩
theorem need_bad (w : World) (e : Int) : Calls Tryd.prog 39 #[.bool false, .int .i64 e] w fun en w' => en = .panicked (wrong e) ∧ w = w' := by
  go_enter Tryd.func39, Tryd.ntmps39
  go_wp2
  exact ⟨rfl, rfl, rfl⟩
structure Rdr (w0 w : World) (rb : Nat) (A : Option Addr) (c : Nat) (l : List Int) (p : Nat) : Prop where
  c0 : w.cell? ⟨rb, 0, none⟩ = some (.slice A l.length c)
  c1 : w.cell? ⟨rb, 1, none⟩ = some (.int .i64 p)
  f1 : w.frozen? ⟨rb, 1, none⟩ = false
  lo : w0.heap.size ≤ rb
  bl : Below w0.heap.size w0 w
  C : Kd.C (Kd.int .u8) w0 A l.length l
  lc : l.length ≤ c
  lm : l.length ≤ 100000
  pl : p ≤ l.length
  by_ : ∀ x ∈ l, 0 ≤ x ∧ x ≤ 255
theorem Rdr.lt {w0 w : World} {rb : Nat} {A : Option Addr} {c : Nat} {l : List Int} {p : Nat} (h : Rdr w0 w rb A c l p) : rb < w.heap.size := World.block_lt_of_cell? w _ h.c0
theorem Rdr.below {w0 w w' : World} {rb : Nat} {A : Option Addr} {c : Nat} {l : List Int} {p : Nat} (h : Rdr w0 w rb A c l p) (hb : Below w.heap.size w w') : Rdr w0 w' rb A c l p :=
  ⟨pw_cell_below hb h.c0, pw_cell_below hb h.c1, (hb.frozen (p := ⟨rb, 1, none⟩) h.lt).trans h.f1, h.lo, below_step h.bl hb, h.C, h.lc, h.lm, h.pl, h.by_⟩
theorem Rdr.set {w0 w : World} {rb : Nat} {A : Option Addr} {c : Nat} {l : List Int} {p : Nat} (h : Rdr w0 w rb A c l p) (q : Nat) (hq : q ≤ l.length) : Rdr w0 (w.setCell ⟨rb, 1, none⟩ (.int .i64 q)) rb A c l q :=
  ⟨(World.cell?_setCell_other _ _ _ _ (by simp)).trans h.c0, World.cell?_setCell_same _ _ _ h.c1, by rw [World.frozen?_setCell]; exact h.f1, h.lo, h.bl.setCell h.lo _, h.C, h.lc, h.lm, hq, h.by_⟩
theorem Rdr.far {w0 w : World} {rb : Nat} {A : Option Addr} {c : Nat} {l : List Int} {p : Nat} (h : Rdr w0 w rb A c l p) {a : Addr} (ha : a.block ≠ rb) (h0 : w0.heap.size ≤ a.block) (v : Value) : Rdr w0 (w.setCell a v) rb A c l p :=
  ⟨(World.cell?_setCell_other _ _ _ _ (fun e => ha (by rw [e]))).trans h.c0, (World.cell?_setCell_other _ _ _ _ (fun e => ha (by rw [e]))).trans h.c1, by rw [World.frozen?_setCell]; exact h.f1, h.lo, h.bl.setCell h0 _, h.C, h.lc, h.lm, h.pl, h.by_⟩
theorem R_only {α : Type} {d : Kd α} {e base : Nat} {p : Nat → Prop} {W W' : World} {v : Value} {xs : List α} (h : d.R e W base (fun _ => True) v xs) (ho : Only p W W') (hp : ∀ k, p k → k < base) : d.R e W' base (fun _ => True) v xs :=
  Kd.R_mono (Kd.R_move (Kd.R_bound h) (fun k hk => ho.block k hk.2.2.1 (fun q => by have := hp k q; have := hk.2.1; omega))) (fun _ _ => trivial)
set_option maxHeartbeats 1000000 in
set_option maxRecDepth 100000 in
theorem bytes_bad {w0 w : World} {rb : Nat} {A : Option Addr} {c : Nat} {l : List Int} {p : Nat} (h : Rdr w0 w rb A c l p) (n : Nat) (hn : l.length < p + n) (hn' : n ≤ 10000000000) :
    Calls Tryd.prog 40 #[.pointer (some ⟨rb, 0, none⟩), .int .i64 n] w fun en w' => en = .panicked (wrong 2) ∧ ∃ k, w' = w.drewN k := by
  have c0 := h.c0
  have c1 := h.c1
  have hp := h.pl
  have hm := h.lm
  have d0 : decide ((n : Int) ≤ (l.length : Int) - (p : Int)) = false := decide_eq_false (by omega)
  have HH := Aside0.mk h
  have HN := Aside0.mk hn
  have HM := Aside0.mk hm
  have e0 : IntKind.i64.wrap ((l.length : Int) - (p : Int)) = (l.length : Int) - (p : Int) := IntWalk.i64_in _ (by omega)
  have e1 : wrap64 ((l.length : Int) - (p : Int)) = (l.length : Int) - (p : Int) := by unfold wrap64; omega
  clear h hn hm hp hn'
  go_enter Tryd.func40, Tryd.ntmps40
  go_wp2
  go_still_tail 12, (by kernel_rfl)
  go_wp2_with (go_at_call 39; refine (need_bad _ _).mono ?_; rintro e1 w1 ⟨rfl, rfl⟩)
  exact ⟨rfl, rfl, _, rfl⟩
set_option maxHeartbeats 2000000 in
set_option maxRecDepth 100000 in
theorem bytes_ok {w0 w : World} {rb : Nat} {A : Option Addr} {c : Nat} {l : List Int} {p : Nat} (h : Rdr w0 w rb A c l p) (n : Nat) (hn : p + n ≤ l.length) :
    Calls Tryd.prog 40 #[.pointer (some ⟨rb, 0, none⟩), .int .i64 n] w fun en w' => ∃ v, en = .returned v ∧ Kd.R (Kd.int .u8) 5 w' w.heap.size (fun _ => True) v ((l.drop p).take n) ∧ Rdr w0 w' rb A c l (p + n) ∧ Only (fun k => k = rb) w w' := by
  have c0 := h.c0
  have c1 := h.c1
  have f1 := h.f1
  have hp := h.pl
  have hm := h.lm
  have d0 : decide ((n : Int) ≤ (l.length : Int) - (p : Int)) = true := decide_eq_true (by omega)
  have HH := Aside0.mk h
  have HN := Aside0.mk hn
  have e0 : IntKind.i64.wrap ((l.length : Int) - (p : Int)) = (l.length : Int) - (p : Int) := IntWalk.i64_in _ (by omega)
  have e1 : wrap64 ((l.length : Int) - (p : Int)) = (l.length : Int) - (p : Int) := by unfold wrap64; omega
  have e2 : IntKind.i64.wrap ((p : Int) + (n : Int)) = (((p + n : Nat)) : Int) := by rw [IntWalk.i64_in _ (by omega)]; simp
  have e3 : wrap64 ((p : Int) + (n : Int)) = (((p + n : Nat)) : Int) := by unfold wrap64; omega
  obtain ⟨i05, hi5, _, hsz5, _⟩ := info_parts info5
  obtain ⟨A5, hs5, hR5, hc5⟩ := print_mid_of (P := Tryd.prog) (Value.int .u8) (0 : Int) 22 5 .i64 .i64 Tryd.underlying22 hi5 hsz5 A c l (p : Int) ((p + n : Nat) : Int) (by omega) (by omega) (by omega) h.lc
  simp only [Int.toNat_natCast] at hs5 hR5 hc5
  have hcut : (l.take (p + n)).drop p = (l.drop p).take n := by rw [List.drop_take]; congr 1; omega
  rw [hcut] at hs5 hR5 hc5
  obtain ⟨x, hx⟩ : ∃ x, (l.drop p).take n = x := ⟨_, rfl⟩
  rw [hx] at hs5 hR5 hc5 ⊢
  have HC5 := Aside0.mk (show Kd.C (Kd.int .u8) w0 A5 x.length x from Kd.C_of_reads (h1 := fun _ => rfl) (hR5 _ (Kd.reads_of_C h.C)))
  have HCC := Aside0.mk hc5
  have HCl := Aside0.mk (show slices_Clone_byte_byte.f x = some x by unfold slices_Clone_byte_byte.f; exact if_pos (by rw [← hx]; simp; omega))
  clear h hn hm hp hi5 hsz5 hR5 hc5 hx hcut
  obtain ⟨pn, hpn⟩ : ∃ pn, p + n = pn := ⟨_, rfl⟩
  rw [hpn] at e2 e3 hs5 HN ⊢
  clear hpn
  go_enter Tryd.func40, Tryd.ntmps40
  go_wp2
  go_still_tail 12, (by kernel_rfl)
  go_wp2_with (go_at_call 39; refine (need_ok _ _).mono ?_; rintro e1 w1 ⟨rfl, rfl⟩)
  have c0d : w.drew.cell? ⟨rb, 0, none⟩ = some (.slice A l.length c) := c0
  have c1d : w.drew.cell? ⟨rb, 1, none⟩ = some (.int .i64 p) := c1
  have HH1 := Aside0.mk (HH.out.below (w' := w.drew) (below_drew (Below.refl _ _)))
  have HO1 := Aside0.mk ((Only.refl (fun k => k = rb) w).drew)
  have HS1 := Aside0.mk (show w.drew.heap.size = w.heap.size from rfl)
  clear c0 c1 f1
  generalize w.drew = wa at c0d c1d HH1 HO1 HS1 ⊢
  go_still_tail 15, (by kernel_rfl)
  have B0 := Aside0.mk HH1.out.bl
  go_wp2_with (go_at_call 27; refine (slices_Clone_byte_byte.calls A5 _ x x _ (Kd.C_below HC5.out (by repeat (first | exact B0.out | apply pw_below_drewN | apply below_drew1))) HCC.out HCl.out).mono ?_; rintro e2 w2 ⟨v2, rfl, ho, hb⟩; have HO2 := Aside0.mk ho; have HB2 := Aside0.mk hb; have RD := Aside0.mk (Rdr.below (w' := w2) HH1.out (below_step (by repeat (first | exact Below.refl _ _ | apply pw_below_drewN | apply below_drew1)) hb)); have c1 := RD.out.c1; have f1 := RD.out.f1; clear ho hb)
  go_ret
  have s1 := ((Only.refl (fun k => k = rb) w2).setCell (ad := ⟨rb, 1, none⟩) rfl (.int .i64 pn))
  have hlt := HH.out.lt
  have hR := HO2.out
  rw [show wa.drew.heap.size = w.heap.size from HS1.out] at hR
  exact ⟨v2, rfl, R_only hR s1 (fun k e => by subst e; exact hlt), RD.out.set pn HN.out,
    (HO1.out.trans ((Only.of_below (below_step (below_drew (Below.refl _ _)) HB2.out) : Only (fun k => k = rb) wa w2))).trans s1⟩
def numF (l : List Int) : Int := l.foldl (fun n c => 256 * n + c) 0
theorem numF_snoc (l : List Int) (c : Int) : numF (l ++ [c]) = 256 * numF l + c := by simp [numF]
theorem numF_bd : ∀ (n : Nat) (l : List Int), l.length = n → (∀ x ∈ l, 0 ≤ x ∧ x ≤ 255) → 0 ≤ numF l ∧ numF l < 256 ^ n := by
  intro n
  induction n with
  | zero => intro l h _; have : l = [] := List.length_eq_zero_iff.1 h; subst this; simp [numF]
  | succ n ih =>
    intro l h hB
    have hne : l ≠ [] := by intro e; subst e; simp at h
    obtain ⟨q, c, rfl⟩ : ∃ q c, l = q ++ [c] := ⟨l.dropLast, l.getLast hne, (List.dropLast_concat_getLast hne).symm⟩
    have hq : q.length = n := by simpa using h
    obtain ⟨h1, h2⟩ := ih q hq (fun x hx => hB x (by simp [hx]))
    have hc := hB c (by simp)
    rw [numF_snoc]
    have hp : (256 : Int) ^ (n + 1) = 256 * 256 ^ n := by rw [Int.pow_succ, Int.mul_comm]
    rw [hp]
    omega
end Go.Proofs.YtpihkmpcnkhnfaaDoor.Hr
namespace Go.Proofs.YtpihkmpcnkhnfaaDoor.Hr
open Go Go.RowKit Go.Proofs.YtpihkmpcnkhnfaaDoorW.PrintWords Go.Proofs.YtpihkmpcnkhnfaaDoorW.PrintLast Go.Proofs.YtpihkmpcnkhnfaaDoorW.PrintMore
open Go.Proofs.YtpihkmpcnkhnfaaDoor.Onl (Only)
set_option linter.unusedVariables false
set_option linter.unusedSimpArgs false
theorem ofInt_i64 (a : Nat) (ha : a < 18446744073709551616) : (BitVec.ofInt 64 (a : Int)).toNat = a := by
  rw [BitVec.ofInt_natCast, BitVec.toNat_ofNat]; exact Nat.mod_eq_of_lt (by omega)
theorem i64_or_nat (a b : Nat) (ha : a < 2 ^ 62) (hb : b < 2 ^ 62) : bits .or .i64 (a : Int) (b : Int) = ((a ||| b : Nat) : Int) := by
  have hx : a ||| b < 2 ^ 62 := Nat.or_lt_two_pow ha hb
  show IntKind.i64.wrap ((BitVec.ofInt 64 (a : Int) ||| BitVec.ofInt 64 (b : Int)).toNat : Int) = _
  rw [BitVec.toNat_or, ofInt_i64 a (by omega), ofInt_i64 b (by omega)]
  simp [IntKind.wrap, IntKind.bits, IntKind.signed]
  omega
theorem i64_or_add (x y : Int) (i : Nat) (hx : 0 ≤ x) (hx' : x < 2 ^ 62) (hy : 0 ≤ y) (hy' : y < 2 ^ 62) (h1 : x.toNat % 2 ^ i = 0) (h2 : y.toNat < 2 ^ i) : bits .or .i64 x y = x + y := by
  obtain ⟨A, rfl⟩ := Int.eq_ofNat_of_zero_le hx
  obtain ⟨B, rfl⟩ := Int.eq_ofNat_of_zero_le hy
  rw [i64_or_nat A B (by omega) (by omega), nat_join i A B (by simpa using h1) (by simpa using h2)]
  omega
theorem number_bad {w0 w : World} {rb : Nat} {A : Option Addr} {c : Nat} {l : List Int} {p : Nat} (h : Rdr w0 w rb A c l p) (n : Nat) (hn : l.length < p + n) (hn' : n ≤ 10000000000) :
    Calls Tryd.prog 38 #[.pointer (some ⟨rb, 0, none⟩), .int .i64 n] w fun en w' => en = .panicked (wrong 2) ∧ ∃ k, w' = w.drewN k := by
  go_enter Tryd.func38, Tryd.ntmps38
  go_wp2_with (go_at_call 40; refine (bytes_bad h n hn hn').mono ?_; rintro e1 w1 ⟨rfl, k1, rfl⟩)
  exact ⟨rfl, rfl, _, rfl⟩
theorem step_num {n c : Int} (hn : 0 ≤ n) (hn' : n < 1099511627776) (hc : 0 ≤ c ∧ c ≤ 255) : bits .or .i64 (wrap64 (n * 256)) (wrap64 c) = 256 * n + c := by
  have e0 : wrap64 (n * 256) = n * 256 := by unfold wrap64; omega
  have e1 : wrap64 c = c := by unfold wrap64; omega
  rw [e0, e1, i64_or_add (n * 256) c 8 (by omega) (by omega) (by omega) (by omega) (by omega) (by omega)]
  omega
set_option maxHeartbeats 1000000 in
set_option maxRecDepth 100000 in
theorem number_ok {w0 w : World} {rb : Nat} {A : Option Addr} {c : Nat} {l : List Int} {p : Nat} (h : Rdr w0 w rb A c l p) (n : Nat) (hn : p + n ≤ l.length) (h4 : n ≤ 4) :
    Calls Tryd.prog 38 #[.pointer (some ⟨rb, 0, none⟩), .int .i64 n] w fun en w' => en = .returned (.int .i64 (numF ((l.drop p).take n))) ∧ Rdr w0 w' rb A c l (p + n) ∧ Only (fun k => k = rb) w w' := by
  obtain ⟨x, hx⟩ : ∃ x, (l.drop p).take n = x := ⟨_, rfl⟩
  have hlen : x.length = n := by rw [← hx]; simp; omega
  have hB : ∀ y ∈ x, 0 ≤ y ∧ y ≤ 255 := fun y hy => h.by_ y (List.mem_of_mem_drop (List.mem_of_mem_take (by rw [hx]; exact hy)))
  have HB := bytes_ok h n hn
  rw [hx] at HB ⊢
  have HBy := Aside0.mk hB
  have HLn := Aside0.mk hlen
  have H4 := Aside0.mk h4
  clear hx h hn hB h4 hlen
  go_enter Tryd.func38, Tryd.ntmps38
  go_wp2_with (go_at_call 40; refine HB.mono ?_; rintro e1 w1 ⟨v1, rfl, ho, hr, hon⟩; obtain ⟨A1, c1, rfl, hl1, hC⟩ := Kd.R_reads ho; have HC := Aside0.mk hC; have HR := Aside0.mk hr; have HON := Aside0.mk hon; clear ho hr hon hl1 hC)
  clear HB
  have HX := Aside0.mk (show x.length ≤ 4 by rw [HLn.out]; exact H4.out)
  have hxl := HX.out
  go_loop [5, 7, 12] (fun n5 v7 i => ∃ k : Nat, k ≤ x.length ∧ i = .int .i64 k ∧ n5 = .int .i64 (numF (x.take k))) (fun _ _ i => x.length - (intOf i).toNat)
  case atStart => exact ⟨0, Nat.zero_le _, rfl, rfl⟩
  case round =>
    obtain ⟨k, hk, rfl, rfl⟩ := hrel
    by_cases hlt : k < x.length
    · obtain ⟨ad, e, hc⟩ := Kd.at_int HC.out (k : Int) (by omega) (by omega)
      subst e
      simp only [Int.toNat_natCast] at hc
      have hsn : x.take (k + 1) = x.take k ++ [rd x (k : Int)] := by
        rw [List.take_succ_eq_append_getElem hlt]
        simp [rd, List.getD_eq_getElem?_getD, hlt]
      have hcb : 0 ≤ rd x (k : Int) ∧ rd x (k : Int) ≤ 255 := by
        have : rd x (k : Int) = x[k] := by simp [rd, List.getD_eq_getElem?_getD, hlt]
        rw [this]
        exact HBy.out _ (List.getElem_mem hlt)
      have hnb := numF_bd k (x.take k) (by simp; omega) (fun y hy => HBy.out y (List.mem_of_mem_take hy))
      have hp4 : (256 : Int) ^ k ≤ 4294967296 := by
        have : k ≤ 3 := by omega
        match k, this with
        | 0, _ => decide
        | 1, _ => decide
        | 2, _ => decide
        | 3, _ => decide
      have HV := Aside0.mk ((step_num hnb.1 (by omega) hcb).trans (show _ = numF (x.take (k + 1)) by rw [hsn, numF_snoc]))
      obtain ⟨cc, hcc⟩ : ∃ cc, rd x (k : Int) = cc := ⟨_, rfl⟩
      obtain ⟨nn, hnn⟩ : ∃ nn, numF (x.take k) = nn := ⟨_, rfl⟩
      obtain ⟨ad', e', hc'⟩ : ∃ a' : Addr, a' = ad ∧ True := ⟨ad, rfl, trivial⟩
      clear e' hc' ad' hsn hcb hnb hp4
      rw [hcc] at hc HV
      rw [hnn] at HV ⊢
      have HVV := HV
      clear hcc hnn HV
      have qi : (k : Int) < (x.length : Int) := by omega
      go_wp2
      go_round
      case measure => simp [intOf]; omega
      case rel => exact ⟨k + 1, by omega, by go_num, by rw [← HVV.out]⟩
    · have he : k = x.length := by omega
      subst he
      have HT := Aside0.mk (show x.take x.length = x from List.take_length)
      clear hlt
      go_wp2
      go_ret
      have hr := HR.out
      rw [← HLn.out] at hr ⊢
      refine ⟨?_, hr, HON.out⟩
      rfl
theorem one_ok {w0 w : World} {rb : Nat} {A : Option Addr} {c : Nat} {l : List Int} {p : Nat} (h : Rdr w0 w rb A c l p) (hn : p < l.length) :
    Calls Tryd.prog 42 #[.pointer (some ⟨rb, 0, none⟩)] w fun en w' => en = .returned (.int .i64 (rd l p)) ∧ Rdr w0 w' rb A c l (p + 1) ∧ Only (fun k => k = rb) w w' := by
  have HB := number_ok h 1 (by omega) (by omega)
  have e : numF ((l.drop p).take 1) = rd l p := by
    have : (l.drop p).take 1 = [rd l p] := by
      rw [List.drop_eq_getElem_cons hn, List.take_succ_cons, List.take_zero]
      simp [rd, List.getD_eq_getElem?_getD, hn]
    rw [this]
    simp [numF]
  rw [e] at HB
  obtain ⟨v, hv⟩ : ∃ v, rd l p = v := ⟨_, rfl⟩
  rw [hv] at HB ⊢
  clear h hn e hv
  go_enter Tryd.func42, Tryd.ntmps42
  go_wp2_with (go_at_call 38; refine HB.mono ?_; rintro e1 w1 ⟨rfl, hr, hon⟩; have HR := Aside0.mk hr; have HON := Aside0.mk hon; clear hr hon)
  go_ret
  exact ⟨rfl, HR.out, HON.out⟩
theorem one_bad {w0 w : World} {rb : Nat} {A : Option Addr} {c : Nat} {l : List Int} {p : Nat} (h : Rdr w0 w rb A c l p) (hn : ¬ p < l.length) :
    Calls Tryd.prog 42 #[.pointer (some ⟨rb, 0, none⟩)] w fun en w' => en = .panicked (wrong 2) ∧ ∃ k, w' = w.drewN k := by
  have HB := number_bad h 1 (by omega) (by omega)
  clear h hn
  go_enter Tryd.func42, Tryd.ntmps42
  go_wp2_with (go_at_call 38; refine HB.mono ?_; rintro e1 w1 ⟨rfl, k1, rfl⟩)
  exact ⟨rfl, rfl, _, rfl⟩
end Go.Proofs.YtpihkmpcnkhnfaaDoor.Hr
namespace Go.Proofs.YtpihkmpcnkhnfaaDoor.Hr
open Go Go.RowKit Go.Proofs.YtpihkmpcnkhnfaaDoorW.PrintWords Go.Proofs.YtpihkmpcnkhnfaaDoorW.PrintLast Go.Proofs.YtpihkmpcnkhnfaaDoorW.PrintMore
open Go.Proofs.YtpihkmpcnkhnfaaDoor.Onl (Only)
open Go.Proofs.YtpihkmpcnkhnfaaDoor.Vn (vread vsize num)
open Go.Proofs.YtpihkmpcnkhnfaaDoor.Gv (varint_Read.f varint_Read.calls)
set_option linter.unusedVariables false
set_option linter.unusedSimpArgs false
theorem vread_cases (l : List Int) : (∃ n s : Nat, vread l = ((n : Int), (s : Int), 0) ∧ 1 ≤ s ∧ s ≤ l.length ∧ n ≤ 4611686018427387903) ∨ (∃ e : Int, (e = 2 ∨ e = 3) ∧ vread l = (0, 0, e)) := by
  unfold vread
  by_cases h0 : l.length = 0
  · rw [if_pos h0]; exact .inr ⟨2, .inl rfl, rfl⟩
  · rw [if_neg h0]
    by_cases h1 : l.length < 2 ^ (rd l 0 / 64).toNat
    · rw [if_pos h1]; exact .inr ⟨2, .inl rfl, rfl⟩
    · rw [if_neg h1]
      generalize num (rd l 0 % 64) ((l.take (2 ^ (rd l 0 / 64).toNat)).drop 1) = n at *
      have hp : 1 ≤ 2 ^ (rd l 0 / 64).toNat := Nat.one_le_two_pow
      generalize 2 ^ (rd l 0 / 64).toNat = s at *
      by_cases h2 : vsize n = (s : Int)
      · rw [if_pos h2]
        have hn : 0 ≤ n ∧ n ≤ 4611686018427387903 := by
          unfold vsize at h2
          by_cases hb : n < 0 ∨ n > 4611686018427387903
          · rw [if_pos hb] at h2; omega
          · omega
        exact .inl ⟨n.toNat, s, by rw [Int.toNat_of_nonneg hn.1], hp, by omega, by omega⟩
      · rw [if_neg h2]; exact .inr ⟨3, .inr rfl, rfl⟩
theorem read_at {w0 W : World} {rb : Nat} {A : Option Addr} {c : Nat} {l : List Int} {p : Nat} (h : Rdr w0 W rb A c l p) :
    ∃ A', (∀ W' : World, (Instr.slice 22 (.slice A l.length c) (some (.int .i64 (p : Int))) none none).run Tryd.prog W' = .ok (.slice A' (l.drop p).length (c - p)) W') ∧
      ∀ n : Nat, Calls Tryd.prog 44 #[.slice A' (l.drop p).length (c - p)] (W.drewN n) fun en w' => en = .returned (.tuple #[.int .i64 (vread (l.drop p)).1, .int .i64 (vread (l.drop p)).2.1, .int .i64 (vread (l.drop p)).2.2]) ∧ ∃ m, w' = W.drewN m := by
  obtain ⟨i05, hi5, _, hsz5, _⟩ := info_parts info5
  have hp := h.pl
  obtain ⟨A5, hs5, hR5, hc5⟩ := print_drop_of (P := Tryd.prog) (Value.int .u8) (0 : Int) 22 5 .i64 Tryd.underlying22 hi5 hsz5 A c l (p : Int) (by omega) (by omega) h.lc
  simp only [Int.toNat_natCast] at hs5 hR5 hc5
  refine ⟨A5, hs5, fun n => ?_⟩
  have hC : Kd.C (Kd.int .u8) w0 A5 (l.drop p).length (l.drop p) := Kd.C_of_reads (h1 := fun _ => rfl) (hR5 _ (Kd.reads_of_C h.C))
  refine (varint_Read.calls A5 (c - p) (l.drop p) _ _ _ (W.drewN n) (Kd.C_below hC (pw_below_drewN h.bl n)) hc5 (by unfold varint_Read.f; exact if_pos (fun x hx => h.by_ x (List.mem_of_mem_drop hx)))).mono ?_
  rintro e w' ⟨rfl, ⟨m, rfl⟩⟩
  exact ⟨rfl, n + m, by rw [World.drewN_drewN]⟩
set_option maxHeartbeats 1000000 in
set_option maxRecDepth 100000 in
theorem varint_bad {w0 w : World} {rb : Nat} {A : Option Addr} {c : Nat} {l : List Int} {p : Nat} (h : Rdr w0 w rb A c l p) (e : Int) (hv : vread (l.drop p) = (0, 0, e)) (he : e = 2 ∨ e = 3) :
    Calls Tryd.prog 43 #[.pointer (some ⟨rb, 0, none⟩)] w fun en w' => en = .panicked (wrong e) ∧ ∃ k, w' = w.drewN k := by
  have c0 := h.c0
  have c1 := h.c1
  obtain ⟨A', hs, hr⟩ := read_at h
  rw [hv] at hr
  have HR := Aside0.mk hr
  obtain ⟨dl, hdl⟩ : ∃ dl, l.drop p = dl := ⟨_, rfl⟩
  rw [hdl] at hs HR
  have q0 : (e == 0) = false := by rcases he with rfl | rfl <;> rfl
  have q1 : decide (e = 0) = false := by rcases he with rfl | rfl <;> rfl
  clear h hv he hr hdl
  go_enter Tryd.func43, Tryd.ntmps43
  go_wp2
  go_quiet ((go_at_call 44; exact HR.out _))
  go_wp2_with (go_at_call 39; refine (need_bad _ _).mono ?_; rintro e1 w1 ⟨rfl, rfl⟩)
  exact ⟨rfl, rfl, _, rfl⟩
set_option maxHeartbeats 1000000 in
set_option maxRecDepth 100000 in
theorem varint_ok {w0 w : World} {rb : Nat} {A : Option Addr} {c : Nat} {l : List Int} {p : Nat} (h : Rdr w0 w rb A c l p) (n s : Nat) (hv : vread (l.drop p) = ((n : Int), (s : Int), 0)) (hs' : p + s ≤ l.length) :
    Calls Tryd.prog 43 #[.pointer (some ⟨rb, 0, none⟩)] w fun en w' => en = .returned (.int .i64 n) ∧ Rdr w0 w' rb A c l (p + s) ∧ Only (fun k => k = rb) w w' := by
  have c0 := h.c0
  have c1 := h.c1
  have f1 := h.f1
  have hm := h.lm
  obtain ⟨A', hs, hr⟩ := read_at h
  rw [hv] at hr
  have HR := Aside0.mk hr
  have HH := Aside0.mk h
  have e2 : IntKind.i64.wrap ((p : Int) + (s : Int)) = (((p + s : Nat)) : Int) := by rw [IntWalk.i64_in _ (by omega)]; simp
  have e3 : wrap64 ((p : Int) + (s : Int)) = (((p + s : Nat)) : Int) := by unfold wrap64; omega
  have HN := Aside0.mk hs'
  obtain ⟨dl, hdl⟩ : ∃ dl, l.drop p = dl := ⟨_, rfl⟩
  obtain ⟨ps, hps⟩ : ∃ ps, p + s = ps := ⟨_, rfl⟩
  rw [hdl] at hs HR
  rw [hps] at e2 e3 HN ⊢
  clear h hv hr hdl hps hm hs'
  go_enter Tryd.func43, Tryd.ntmps43
  go_wp2
  go_quiet ((go_at_call 44; exact HR.out _))
  have c1d : (w.drewN nq).cell? ⟨rb, 1, none⟩ = some (.int .i64 p) := c1
  have f1d : (w.drewN nq).frozen? ⟨rb, 1, none⟩ = false := f1
  have HH1 := Aside0.mk (HH.out.below (w' := w.drewN nq) (pw_below_drewN (Below.refl _ _) nq))
  have HO1 := Aside0.mk ((Only.refl (fun k => k = rb) w).drewN nq)
  clear c0 c1 f1
  generalize w.drewN nq = wa at c1d f1d HH1 HO1 ⊢
  go_wp2_with (go_at_call 39; refine (need_ok _ _).mono ?_; rintro e1 w1 ⟨rfl, rfl⟩)
  go_ret
  exact ⟨rfl, HH1.out.set ps HN.out, HO1.out.trans ((Only.refl (fun k => k = rb) _).setCell (ad := ⟨rb, 1, none⟩) rfl _)⟩
end Go.Proofs.YtpihkmpcnkhnfaaDoor.Hr
namespace Go.Proofs.YtpihkmpcnkhnfaaDoor.Hr
open Go Go.RowKit Go.Proofs.YtpihkmpcnkhnfaaDoorW.PrintWords Go.Proofs.YtpihkmpcnkhnfaaDoorW.PrintLast Go.Proofs.YtpihkmpcnkhnfaaDoorW.PrintMore
open Go.Proofs.YtpihkmpcnkhnfaaDoor.Onl (Only)
open Go.Proofs.YtpihkmpcnkhnfaaDoor.Vn (vread vsize num)
set_option linter.unusedVariables false
set_option linter.unusedSimpArgs false
def rdN (l : List Int) (p n : Nat) : Except Int (Int × Nat) := if p + n ≤ l.length then .ok (numF ((l.drop p).take n), p + n) else .error 2
def rdB (l : List Int) (p n : Nat) : Except Int (List Int × Nat) := if p + n ≤ l.length then .ok ((l.drop p).take n, p + n) else .error 2
def rdV (l : List Int) (p : Nat) : Except Int (Int × Nat) := if (vread (l.drop p)).2.2 = 0 then .ok ((vread (l.drop p)).1, p + (vread (l.drop p)).2.1.toNat) else .error (vread (l.drop p)).2.2
def rdC (r : Except Int (Int × Nat)) (l : List Int) (most : Int) : Except Int (List Int × Nat) := match r with
  | .error e => .error e
  | .ok (n, q) => if n ≤ most then rdB l q n.toNat else .error 4
def NumPost (w0 w : World) (rb : Nat) (A : Option Addr) (c : Nat) (l : List Int) (r : Except Int (Int × Nat)) (en : Ending) (w' : World) : Prop := match r with
  | .error e => en = .panicked (wrong e) ∧ Only (fun k => k = rb) w w'
  | .ok (n, q) => en = .returned (.int .i64 n) ∧ 0 ≤ n ∧ n ≤ 4611686018427387903 ∧ Rdr w0 w' rb A c l q ∧ Only (fun k => k = rb) w w'
def RowPost (w0 w : World) (rb : Nat) (A : Option Addr) (c : Nat) (l : List Int) (r : Except Int (List Int × Nat)) (en : Ending) (w' : World) : Prop := match r with
  | .error e => en = .panicked (wrong e) ∧ Only (fun k => k = rb) w w'
  | .ok (x, q) => ∃ v, en = .returned v ∧ Kd.R (Kd.int .u8) 5 w' w.heap.size (fun _ => True) v x ∧ Rdr w0 w' rb A c l q ∧ Only (fun k => k = rb) w w'
theorem num_post {w0 w : World} {rb : Nat} {A : Option Addr} {c : Nat} {l : List Int} {p : Nat} (h : Rdr w0 w rb A c l p) (n : Nat) (h4 : n ≤ 4) :
    Calls Tryd.prog 38 #[.pointer (some ⟨rb, 0, none⟩), .int .i64 n] w (NumPost w0 w rb A c l (rdN l p n)) := by
  unfold rdN
  by_cases hn : p + n ≤ l.length
  · rw [if_pos hn]
    refine (number_ok h n hn h4).mono ?_
    rintro en w' ⟨rfl, hr, ho⟩
    have hb := numF_bd n ((l.drop p).take n) (by simp; omega) (fun x hx => h.by_ x (List.mem_of_mem_drop (List.mem_of_mem_take hx)))
    have : (256 : Int) ^ n ≤ 4294967296 := by
      match n, h4 with
      | 0, _ => decide
      | 1, _ => decide
      | 2, _ => decide
      | 3, _ => decide
      | 4, _ => decide
    exact ⟨rfl, hb.1, by omega, hr, ho⟩
  · rw [if_neg hn]
    refine (number_bad h n (by omega) (by omega)).mono ?_
    rintro en w' ⟨rfl, k, rfl⟩
    exact ⟨rfl, (Only.refl _ w).drewN k⟩
theorem one_post {w0 w : World} {rb : Nat} {A : Option Addr} {c : Nat} {l : List Int} {p : Nat} (h : Rdr w0 w rb A c l p) :
    Calls Tryd.prog 42 #[.pointer (some ⟨rb, 0, none⟩)] w (NumPost w0 w rb A c l (rdN l p 1)) := by
  unfold rdN
  by_cases hn : p + 1 ≤ l.length
  · rw [if_pos hn]
    have e : numF ((l.drop p).take 1) = rd l p := by
      have : (l.drop p).take 1 = [rd l p] := by
        rw [List.drop_eq_getElem_cons (by omega), List.take_succ_cons, List.take_zero]
        simp [rd, List.getD_eq_getElem?_getD, show p < l.length by omega]
      rw [this]
      simp [numF]
    have hb := numF_bd 1 ((l.drop p).take 1) (by simp; omega) (fun x hx => h.by_ x (List.mem_of_mem_drop (List.mem_of_mem_take hx)))
    refine (one_ok h (by omega)).mono ?_
    rintro en w' ⟨rfl, hr, ho⟩
    rw [← e]
    exact ⟨rfl, hb.1, by omega, hr, ho⟩
  · rw [if_neg hn]
    refine (one_bad h (by omega)).mono ?_
    rintro en w' ⟨rfl, k, rfl⟩
    exact ⟨rfl, (Only.refl _ w).drewN k⟩
theorem var_post {w0 w : World} {rb : Nat} {A : Option Addr} {c : Nat} {l : List Int} {p : Nat} (h : Rdr w0 w rb A c l p) :
    Calls Tryd.prog 43 #[.pointer (some ⟨rb, 0, none⟩)] w (NumPost w0 w rb A c l (rdV l p)) := by
  unfold rdV
  rcases vread_cases (l.drop p) with ⟨n, s, hv, h1, h2, h3⟩ | ⟨e, he, hv⟩
  · rw [hv, if_pos rfl, Int.toNat_natCast]
    have hp := h.pl
    refine (varint_ok h n s hv (by simp at h2; omega)).mono ?_
    rintro en w' ⟨rfl, hr, ho⟩
    exact ⟨rfl, by omega, by omega, hr, ho⟩
  · rw [hv, if_neg (by show ¬ e = 0; omega)]
    refine (varint_bad h e hv he).mono ?_
    rintro en w' ⟨rfl, k, rfl⟩
    exact ⟨rfl, (Only.refl _ w).drewN k⟩
theorem bytes_post {w0 w : World} {rb : Nat} {A : Option Addr} {c : Nat} {l : List Int} {p : Nat} (h : Rdr w0 w rb A c l p) (n : Nat) (hn' : n ≤ 10000000000) :
    Calls Tryd.prog 40 #[.pointer (some ⟨rb, 0, none⟩), .int .i64 n] w (RowPost w0 w rb A c l (rdB l p n)) := by
  unfold rdB
  by_cases hn : p + n ≤ l.length
  · rw [if_pos hn]; exact bytes_ok h n hn
  · rw [if_neg hn]
    refine (bytes_bad h n (by omega) hn').mono ?_
    rintro en w' ⟨rfl, k, rfl⟩
    exact ⟨rfl, (Only.refl _ w).drewN k⟩
set_option maxHeartbeats 1000000 in
set_option maxRecDepth 100000 in
theorem counted_post {w0 w : World} {rb : Nat} {A : Option Addr} {c : Nat} {l : List Int} (cf : FuncId) (r : Except Int (Int × Nat)) (most : Nat) (hm : most ≤ 1000)
    (hent : ∀ args w, (callFunc cf args).run Tryd.prog w = .ok (.enter cf args) w) (hr0 : ∀ n q, r = .ok (n, q) → 0 ≤ n)
    (H : Calls Tryd.prog cf #[.pointer (some ⟨rb, 0, none⟩)] w (NumPost w0 w rb A c l r)) :
    Calls Tryd.prog 41 #[.pointer (some ⟨rb, 0, none⟩), .func (.func cf) #[.pointer (some ⟨rb, 0, none⟩)] #[], .int .i64 most] w (RowPost w0 w rb A c l (rdC r l most)) := by
  have HM := Aside0.mk hm
  clear hm
  rcases r with e | ⟨n, q⟩
  · unfold rdC
    unfold NumPost at H
    go_enter Tryd.func41, Tryd.ntmps41
    go_wp2_with (refine H.mono ?_; rintro e1 w1 ⟨rfl, ho⟩; have HO := Aside0.mk ho; clear ho)
    exact ⟨rfl, rfl, HO.out⟩
  · obtain ⟨m, rfl⟩ := Int.eq_ofNat_of_zero_le (hr0 n q rfl)
    unfold NumPost at H
    clear hr0
    by_cases hle : m ≤ most
    · have e : rdC (.ok ((m : Int), q)) l most = rdB l q m := by
        unfold rdC
        show (if (m : Int) ≤ (most : Int) then rdB l q (m : Int).toNat else .error 4) = _
        rw [if_pos (by omega), Int.toNat_natCast]
      rw [e]
      have d0 : decide ((m : Int) ≤ (most : Int)) = true := decide_eq_true (by omega)
      have d1 : decide (m ≤ most) = true := decide_eq_true hle
      have HLE := Aside0.mk hle
      clear hle e
      rcases hb : rdB l q m with e | ⟨x, q2⟩
      · have HBB := Aside0.mk hb
        clear hb
        go_enter Tryd.func41, Tryd.ntmps41
        go_wp2_with (first
          | (go_at_call 39; refine (need_ok _ _).mono ?_; rintro e1 w1 ⟨rfl, rfl⟩)
          | (go_at_call 40; refine (bytes_post HR.out m (by have := HLE.out; have := HM.out; omega)).mono ?_; rw [HBB.out]; rintro e2 w2 ⟨rfl, ho2⟩; have HO2 := Aside0.mk ho2; clear ho2)
          | (refine H.mono ?_; rintro e1 w1 ⟨rfl, h0, h1, hr, ho⟩; have HO := Aside0.mk ho; have HR := Aside0.mk hr; clear ho hr h0 h1))
        exact ⟨rfl, rfl, HO.out.trans HO2.out⟩
      · have HBB := Aside0.mk hb
        clear hb
        go_enter Tryd.func41, Tryd.ntmps41
        go_wp2_with (first
          | (go_at_call 39; refine (need_ok _ _).mono ?_; rintro e1 w1 ⟨rfl, rfl⟩)
          | (go_at_call 40; refine (bytes_post HR.out m (by have := HLE.out; have := HM.out; omega)).mono ?_; rw [HBB.out]; rintro e2 w2 ⟨v2, rfl, hv2, hr2, ho2⟩; have HO2 := Aside0.mk ho2; have HV2 := Aside0.mk hv2; have HR2 := Aside0.mk hr2; clear ho2 hv2 hr2)
          | (refine H.mono ?_; rintro e1 w1 ⟨rfl, h0, h1, hr, ho⟩; have HO := Aside0.mk ho; have HR := Aside0.mk hr; clear ho hr h0 h1))
        go_ret
        exact ⟨_, rfl, Kd.R_lower HV2.out HO.out.size, HR2.out, HO.out.trans HO2.out⟩
    · have e : rdC (.ok ((m : Int), q)) l most = .error 4 := by
        unfold rdC
        show (if (m : Int) ≤ (most : Int) then rdB l q (m : Int).toNat else .error 4) = _
        rw [if_neg (by omega)]
      rw [e]
      have d0 : decide ((m : Int) ≤ (most : Int)) = false := decide_eq_false (by omega)
      have d1 : decide (m ≤ most) = false := decide_eq_false hle
      clear hle e
      go_enter Tryd.func41, Tryd.ntmps41
      go_wp2_with (first
        | (go_at_call 39; refine (need_bad _ _).mono ?_; rintro e1 w1 ⟨rfl, rfl⟩)
        | (refine H.mono ?_; rintro e1 w1 ⟨rfl, h0, h1, hr, ho⟩; have HO := Aside0.mk ho; clear ho hr h0 h1))
      exact ⟨rfl, rfl, HO.out⟩
theorem rdN_nn {l : List Int} (hB : ∀ x ∈ l, 0 ≤ x ∧ x ≤ 255) {p n : Nat} {v : Int} {q : Nat} (h : rdN l p n = .ok (v, q)) : 0 ≤ v := by
  unfold rdN at h
  by_cases hn : p + n ≤ l.length
  · rw [if_pos hn] at h
    injection h with h
    injection h with h1 h2
    rw [← h1]
    exact (numF_bd n ((l.drop p).take n) (by simp; omega) (fun x hx => hB x (List.mem_of_mem_drop (List.mem_of_mem_take hx)))).1
  · rw [if_neg hn] at h; cases h
theorem rdV_nn {l : List Int} {p : Nat} {v : Int} {q : Nat} (h : rdV l p = .ok (v, q)) : 0 ≤ v := by
  unfold rdV at h
  rcases vread_cases (l.drop p) with ⟨n, s, hv, h1, h2, h3⟩ | ⟨e, he, hv⟩
  · rw [hv, if_pos rfl] at h
    injection h with h
    injection h with h1 h2
    rw [← h1]
    show (0 : Int) ≤ (n : Int)
    omega
  · rw [hv, if_neg (by show ¬ e = 0; omega)] at h; cases h
theorem counted_one {w0 w : World} {rb : Nat} {A : Option Addr} {c : Nat} {l : List Int} {p : Nat} (h : Rdr w0 w rb A c l p) (most : Nat) (hm : most ≤ 1000) :
    Calls Tryd.prog 41 #[.pointer (some ⟨rb, 0, none⟩), .func (.func 42) #[.pointer (some ⟨rb, 0, none⟩)] #[], .int .i64 most] w (RowPost w0 w rb A c l (rdC (rdN l p 1) l most)) :=
  counted_post _ _ most hm (enters_ Tryd.func42 (by kernel_rfl) rfl) (fun n q e => rdN_nn h.by_ e) (one_post h)
theorem counted_var {w0 w : World} {rb : Nat} {A : Option Addr} {c : Nat} {l : List Int} {p : Nat} (h : Rdr w0 w rb A c l p) (most : Nat) (hm : most ≤ 1000) :
    Calls Tryd.prog 41 #[.pointer (some ⟨rb, 0, none⟩), .func (.func 43) #[.pointer (some ⟨rb, 0, none⟩)] #[], .int .i64 most] w (RowPost w0 w rb A c l (rdC (rdV l p) l most)) :=
  counted_post _ _ most hm (enters_ Tryd.func43 (by kernel_rfl) rfl) (fun n q e => rdV_nn e) (var_post h)
end Go.Proofs.YtpihkmpcnkhnfaaDoor.Hr
namespace Go.Proofs.YtpihkmpcnkhnfaaDoor.Hr
open Go Go.RowKit Go.Proofs.YtpihkmpcnkhnfaaDoorW.PrintWords Go.Proofs.YtpihkmpcnkhnfaaDoorW.PrintLast Go.Proofs.YtpihkmpcnkhnfaaDoorW.PrintMore
open Go.Proofs.YtpihkmpcnkhnfaaDoor.Onl (Only)
open Go.Proofs.YtpihkmpcnkhnfaaDoor.Vn (vread vsize num)
set_option linter.unusedVariables false
set_option linter.unusedSimpArgs false
abbrev Flds := Int × Int × List Int × List Int × List Int × Int × Int × Int
abbrev HRes := Except Int (Flds × Nat × Int)
def hShort (l : List Int) (f : Int) (p : Nat) : HRes :=
  if 64 ≤ f ∧ f < 72 then
    match rdB l p 8 with
    | .error e => .error e
    | .ok (tO, p1) => match rdN l p1 (f % 4 + 1).toNat with
      | .error e => .error e
      | .ok (nm, p2) => .ok ((3, 0, tO, [], [], f / 4 % 2, nm, f % 4 + 1), p2, l.length)
  else .error 3
def Blk (w : World) (b : Nat) (cs : List Value) : Prop := w.heap[b]? = some (.cells cs.toArray 33 (0, 0))
theorem Blk.lt {w : World} {b : Nat} {cs : List Value} (h : Blk w b cs) : b < w.heap.size := (Array.getElem?_eq_some_iff.1 h).1
theorem Blk.cell {w : World} {b : Nat} {cs : List Value} (h : Blk w b cs) (j : Nat) (v : Value) (hj : cs[j]? = some v) : w.cell? ⟨b, j, none⟩ = some v := by
  unfold Blk at h
  simp [World.cell?, h, hj]
theorem Blk.frozen {w : World} {b : Nat} {cs : List Value} (h : Blk w b cs) (j : Nat) : w.frozen? ⟨b, j, none⟩ = false := by
  unfold Blk at h
  simp [World.frozen?, h]
theorem Blk.set {w : World} {b : Nat} {cs : List Value} (h : Blk w b cs) (j : Nat) (v : Value) : Blk (w.setCell ⟨b, j, none⟩ v) b (cs.set j v) := by
  unfold Blk at h ⊢
  rw [heap_setCell_same w b j cs.toArray 33 v h]
  simp
theorem Blk.only {w w' : World} {b : Nat} {cs : List Value} (h : Blk w b cs) {p : Nat → Prop} (ho : Only p w w') (hp : ¬ p b) : Blk w' b cs := (ho.block b h.lt hp).trans h
theorem Blk.far {w : World} {b : Nat} {cs : List Value} (h : Blk w b cs) {a : Addr} (ha : a.block ≠ b) (v : Value) : Blk (w.setCell a v) b cs := by
  unfold Blk at h ⊢
  rw [heap_setCell_other _ _ _ _ (fun e => ha e.symm)]
  exact h
theorem Blk.new (w : World) (cs : List Value) : Blk (w.alloc (.cells cs.toArray 33)) w.heap.size cs := World.alloc_heap_new w _
def HeadPost (w0 w : World) (rb : Nat) (A : Option Addr) (c : Nat) (l : List Int) (r : HRes) (en : Ending) (w' : World) : Prop := match r with
  | .error e => en = .panicked (wrong e) ∧ Only (fun k => k = rb) w w'
  | .ok ((kd, ver, tO, fr, tk, ph, nm, wd), p, fin) => ∃ v2 v3 v4 : Value, en = .returned (.tuple #[.agg #[.int .i64 kd, .int .i64 ver, v2, v3, v4, .int .i64 ph, .int .i64 nm, .int .i64 wd], .int .i64 fin]) ∧
      (∃ s1 s2 s3 s4 : Nat, w.heap.size ≤ s1 ∧ s1 ≤ s2 ∧ s2 ≤ s3 ∧ s3 ≤ s4 ∧ Kd.R (Kd.int .u8) 5 w' s1 (fun k => s1 ≤ k ∧ k < s2) v2 tO ∧ Kd.R (Kd.int .u8) 5 w' s2 (fun k => s2 ≤ k ∧ k < s3) v3 fr ∧ Kd.R (Kd.int .u8) 5 w' s3 (fun k => s3 ≤ k ∧ k < s4) v4 tk) ∧
      Rdr w0 w' rb A c l p ∧ Only (fun k => k = rb) w w'
set_option maxHeartbeats 1000000 in
set_option maxRecDepth 100000 in
theorem header_none {w0 w : World} {rb : Nat} {A : Option Addr} {c : Nat} {l : List Int} (h : Rdr w0 w rb A c l 0) (e : Int) (hf : rdN l 0 1 = .error e) :
    Calls Tryd.prog 34 #[.pointer (some ⟨rb, 0, none⟩)] w fun en w' => en = .panicked (wrong e) ∧ Only (fun k => k = rb) w w' := by
  have H := num_post (h.below (w' := w.alloc (.cells #[.int .i64 0, .int .i64 0, .slice none 0 0, .slice none 0 0, .slice none 0 0, .int .i64 0, .int .i64 0, .int .i64 0] 33)) (below_alloc (Below.refl _ _) _)) 1 (by omega)
  rw [hf] at H
  clear hf
  go_enter Tryd.func34, Tryd.ntmps34
  go_wp2_with (go_at_call 38; refine H.mono ?_; rintro e1 w1 ⟨rfl, ho⟩; have HO := Aside0.mk ho; clear ho)
  exact ⟨rfl, rfl, ((Only.refl _ w).alloc _).trans HO.out⟩
def put8 (w : World) (b : Nat) (v0 v1 v2 v3 v4 v5 v6 v7 : Value) : World := (((((((w.setCell ⟨b, 0, none⟩ v0).setCell ⟨b, 1, none⟩ v1).setCell ⟨b, 2, none⟩ v2).setCell ⟨b, 3, none⟩ v3).setCell ⟨b, 4, none⟩ v4).setCell ⟨b, 5, none⟩ v5).setCell ⟨b, 6, none⟩ v6).setCell ⟨b, 7, none⟩ v7
theorem put8_only (w : World) (b : Nat) (v0 v1 v2 v3 v4 v5 v6 v7 : Value) : Only (fun k => k = b) w (put8 w b v0 v1 v2 v3 v4 v5 v6 v7) := by
  unfold put8
  exact ((((((((Only.refl (fun k => k = b) w).setCell (ad := ⟨b, 0, none⟩) rfl v0).setCell (ad := ⟨b, 1, none⟩) rfl v1).setCell (ad := ⟨b, 2, none⟩) rfl v2).setCell (ad := ⟨b, 3, none⟩) rfl v3).setCell (ad := ⟨b, 4, none⟩) rfl v4).setCell (ad := ⟨b, 5, none⟩) rfl v5).setCell (ad := ⟨b, 6, none⟩) rfl v6).setCell (ad := ⟨b, 7, none⟩) rfl v7
theorem put8_blk {w : World} {b : Nat} {z0 z1 z2 z3 z4 z5 z6 z7 : Value} (h : Blk w b [z0, z1, z2, z3, z4, z5, z6, z7]) (v0 v1 v2 v3 v4 v5 v6 v7 : Value) : Blk (put8 w b v0 v1 v2 v3 v4 v5 v6 v7) b [v0, v1, v2, v3, v4, v5, v6, v7] :=
  (((((((h.set 0 v0).set 1 v1).set 2 v2).set 3 v3).set 4 v4).set 5 v5).set 6 v6).set 7 v7
theorem Rdr.only {w0 w w' : World} {rb : Nat} {A : Option Addr} {c : Nat} {l : List Int} {p : Nat} (h : Rdr w0 w rb A c l p) {b : Nat} (ho : Only (fun k => k = b) w w') (hb : b ≠ rb) (h0 : w0.heap.size ≤ b) : Rdr w0 w' rb A c l p :=
  ⟨ho.cell (ad := ⟨rb, 0, none⟩) (fun e => hb e.symm) h.c0, ho.cell (ad := ⟨rb, 1, none⟩) (fun e => hb e.symm) h.c1, (World.frozen?_of_block (ho.block rb h.lt (fun e => hb e.symm))).trans h.f1, h.lo, h.bl.trans (ho.below h.bl.size (fun k e => by subst e; exact h0)), h.C, h.lc, h.lm, h.pl, h.by_⟩
theorem and3 : ∀ k : Fin 256, bits .and .i64 (k.val : Int) 3 = (k.val : Int) % 4 := by decide +kernel
theorem and1 : ∀ k : Fin 256, bits .and .i64 ((k.val : Int) / 4) 1 = (k.val : Int) / 4 % 2 := by decide +kernel
theorem not7 : ∀ k : Fin 256, (bits .andNot .i64 (k.val : Int) 7 == 64) = decide (64 ≤ (k.val : Int) ∧ (k.val : Int) < 72) := by decide +kernel
theorem and12 : ∀ k : Fin 256, (bits .and .i64 (k.val : Int) 12 == 0) = decide ((k.val : Int) / 4 % 4 = 0) := by decide +kernel
theorem and48 : ∀ k : Fin 256, bits .and .i64 ((k.val : Int) / 16) 3 = (k.val : Int) / 16 % 4 := by decide +kernel
theorem byte_fin {f : Int} (h0 : 0 ≤ f) (h1 : f ≤ 255) : ∃ k : Fin 256, f = (k.val : Int) := ⟨⟨f.toNat, by omega⟩, by show f = (f.toNat : Int); omega⟩
set_option maxHeartbeats 4000000 in
set_option maxRecDepth 100000 in
theorem header_short {w0 w : World} {rb : Nat} {A : Option Addr} {c : Nat} {l : List Int} (h : Rdr w0 w rb A c l 0) (f : Int) (hf : rdN l 0 1 = .ok (f, 1)) (h0 : 0 ≤ f) (hlt : f < 192) :
    Calls Tryd.prog 34 #[.pointer (some ⟨rb, 0, none⟩)] w (HeadPost w0 w rb A c l (hShort l f 1)) := by
  have H := num_post (h.below (w' := w.alloc (.cells #[.int .i64 0, .int .i64 0, .slice none 0 0, .slice none 0 0, .slice none 0 0, .int .i64 0, .int .i64 0, .int .i64 0] 33)) (below_alloc (Below.refl _ _) _)) 1 (by omega)
  rw [hf] at H
  have d0 : decide (f < 192) = true := decide_eq_true hlt
  obtain ⟨kf, hk⟩ := byte_fin h0 (by omega)
  have a1 := and3 kf
  have a2 := and1 kf
  have a3 := not7 kf
  rw [← hk] at a1 a2 a3
  clear hk kf
  have a4 : wrap64 (f % 4 + 1) = f % 4 + 1 := by unfold wrap64; omega
  have HBZ := Aside0.mk (Blk.new w [.int .i64 0, .int .i64 0, .slice none 0 0, .slice none 0 0, .slice none 0 0, .int .i64 0, .int .i64 0, .int .i64 0])
  have H0 := Aside0.mk h0
  have HLT := Aside0.mk hlt
  have HRL := Aside0.mk h.lt
  obtain ⟨r, hr_⟩ : ∃ r, hShort l f 1 = r := ⟨_, rfl⟩
  rw [hr_]
  have HRr := Aside0.mk hr_
  clear hf h0 hlt h hr_
  go_enter Tryd.func34, Tryd.ntmps34
  go_upto_region 5 with (go_at_call 38; refine H.mono ?_; rintro e1 w1 ⟨rfl, _, _, hr, ho⟩; have HO := Aside0.mk ho; have HR := Aside0.mk hr; clear ho hr)
  clear H a1 a2
  have hne : w.heap.size ≠ rb := by have := HRL.out; omega
  have hsz : w.heap.size < w1.heap.size := Nat.lt_of_lt_of_le (by simp) HO.out.size
  have hr1 := HR.out.below (w' := w1.alloc (.cells #[.int .i64 3, .int .i64 0, .slice none 0 0, .slice none 0 0, .slice none 0 0, .int .i64 (f / 4 % 2), .int .i64 0, .int .i64 (f % 4 + 1)] 33)) (below_alloc (Below.refl _ _) _)
  have hb1 := Blk.new w1 [.int .i64 3, .int .i64 0, .slice none 0 0, .slice none 0 0, .slice none 0 0, .int .i64 (f / 4 % 2), .int .i64 0, .int .i64 (f % 4 + 1)]
  have hz1 := (HBZ.out.only HO.out hne).only ((Only.refl (fun _ => False) w1).alloc (.cells #[.int .i64 3, .int .i64 0, .slice none 0 0, .slice none 0 0, .slice none 0 0, .int .i64 (f / 4 % 2), .int .i64 0, .int .i64 (f % 4 + 1)] 33)) (fun q => q)
  have ho1 := (((Only.refl (fun k => k = rb) w).alloc (.cells #[.int .i64 0, .int .i64 0, .slice none 0 0, .slice none 0 0, .slice none 0 0, .int .i64 0, .int .i64 0, .int .i64 0] 33)).trans HO.out).alloc (.cells #[.int .i64 3, .int .i64 0, .slice none 0 0, .slice none 0 0, .slice none 0 0, .int .i64 (f / 4 % 2), .int .i64 0, .int .i64 (f % 4 + 1)] 33)
  have hs1 : w1.heap.size < (w1.alloc (.cells #[.int .i64 3, .int .i64 0, .slice none 0 0, .slice none 0 0, .slice none 0 0, .int .i64 (f / 4 % 2), .int .i64 0, .int .i64 (f % 4 + 1)] 33)).heap.size := by simp
  clear HO HR HBZ
  generalize w1.alloc (.cells #[.int .i64 3, .int .i64 0, .slice none 0 0, .slice none 0 0, .slice none 0 0, .int .i64 (f / 4 % 2), .int .i64 0, .int .i64 (f % 4 + 1)] 33) = w2 at *
  generalize w1.heap.size = hb at *
  have R2 := Aside0.mk hr1
  have B2 := Aside0.mk hb1
  have Z2 := Aside0.mk hz1
  have O2 := Aside0.mk ho1
  have HL := Aside0.mk (show rb < w.heap.size ∧ w.heap.size < hb ∧ hb < w2.heap.size from ⟨HRL.out, hsz, hs1⟩)
  clear hr1 hb1 hz1 ho1 hne hsz hs1 HRL w1
  by_cases hq : 64 ≤ f ∧ f < 72
  · rw [decide_eq_true hq] at a3
    rcases bq : rdB l 1 8 with e | ⟨x, q⟩
    · obtain rfl : .error e = r := (show hShort l f 1 = .error e by unfold hShort; rw [if_pos hq, bq]).symm.trans HRr.out
      have HB := bytes_post R2.out 8 (by omega)
      rw [bq] at HB
      clear hq bq HRr
      go_wp2_with (first
        | (go_at_call 39; refine (need_ok _ _).mono ?_; rintro e1 w1 ⟨rfl, rfl⟩)
        | (go_at_call 40; refine HB.mono ?_; rintro e1 w3 ⟨rfl, ho⟩; have HO := Aside0.mk ho; clear ho))
      exact ⟨rfl, rfl, O2.out.trans HO.out⟩
    · have HB := bytes_post R2.out 8 (by omega)
      rw [bq] at HB
      have HQ := Aside0.mk hq
      have BQ := Aside0.mk bq
      clear hq bq
      go_upto_region 7 with (first
        | (go_at_call 39; refine (need_ok _ _).mono ?_; rintro e1 w1 ⟨rfl, rfl⟩)
        | (go_at_call 40; refine HB.mono ?_; rintro e1 w3 ⟨v3, rfl, hv, hr, ho⟩; obtain ⟨A3, c3, e3⟩ := Kd.R_slice hv; obtain ⟨n3, hn3⟩ : ∃ n3, x.length = n3 := ⟨_, rfl⟩; rw [hn3] at e3; clear hn3; subst e3; have HO := Aside0.mk ho; have HR := Aside0.mk hr; have HV := Aside0.mk hv; have hb3 := B2.out.only ho (by have := HL.out; omega); have B3 := Aside0.mk hb3; have q3 := hb3.cell 2 _ rfl; have g3 := hb3.frozen 2; clear ho hr hv hb3))
      have hL := HL.out
      have s4 := (Only.refl (fun k => k = hb) w3).setCell (ad := ⟨hb, 2, none⟩) rfl (.slice A3 n3 c3)
      have R4 := Aside0.mk (HR.out.far (a := ⟨hb, 2, none⟩) (by show hb ≠ rb; omega) (by have := HR.out.lo; show w0.heap.size ≤ hb; omega) (.slice A3 n3 c3))
      have B4 := Aside0.mk (B3.out.set 2 (.slice A3 n3 c3))
      have Z4 := Aside0.mk ((Z2.out.only HO.out (by omega)).far (a := ⟨hb, 2, none⟩) (by show hb ≠ w.heap.size; omega) (.slice A3 n3 c3))
      have V4 := Aside0.mk (R_only HV.out s4 (fun k e => by omega))
      have O4 := Aside0.mk ((O2.out.trans HO.out).setNew (ad := ⟨hb, 2, none⟩) (by show w.heap.size ≤ hb; omega) (.slice A3 n3 c3))
      have L4 := Aside0.mk (show w2.heap.size ≤ w3.heap.size from HO.out.size)
      clear s4 HR B3 Z2 HV O2 HO B2 q3 g3 R2 HB
      have hz4 : w3.heap.size ≤ (w3.setCell ⟨hb, 2, none⟩ (.slice A3 n3 c3)).heap.size := by simp [World.setCell]
      generalize w3.setCell ⟨hb, 2, none⟩ (.slice A3 n3 c3) = w4 at *
      have Z4s := Aside0.mk hz4
      have q7 := B4.out.cell 7 _ rfl
      have HN0 := H0.out
      have HN := num_post R4.out (f % 4 + 1).toNat (by omega)
      rw [Int.toNat_of_nonneg (by omega)] at HN
      clear hL hz4 HN0
      rcases bn : rdN l q (f % 4 + 1).toNat with e | ⟨nm, q2⟩
      · obtain rfl : .error e = r := (show hShort l f 1 = .error e by unfold hShort; rw [if_pos HQ.out, BQ.out]; show (match rdN l q (f % 4 + 1).toNat with | .error e => _ | .ok (nm, p2) => _) = _; rw [bn]).symm.trans HRr.out
        rw [bn] at HN
        clear bn
        go_wp2_with (go_at_call 38; refine HN.mono ?_; rintro e1 w5 ⟨rfl, ho⟩; have HO := Aside0.mk ho; clear ho)
        exact ⟨rfl, rfl, O4.out.trans HO.out⟩
      · obtain rfl : .ok ((3, 0, x, [], [], f / 4 % 2, nm, f % 4 + 1), q2, (l.length : Int)) = r := (show hShort l f 1 = _ by unfold hShort; rw [if_pos HQ.out, BQ.out]; show (match rdN l q (f % 4 + 1).toNat with | .error e => _ | .ok (nm, p2) => _) = _; rw [bn]).symm.trans HRr.out
        rw [bn] at HN
        clear bn
        go_upto_region 8 with (go_at_call 38; refine HN.mono ?_; rintro e1 w5 ⟨rfl, _, _, hr, ho⟩; have HO := Aside0.mk ho; have HR := Aside0.mk hr; have hb5 := B4.out.only ho (by have := HL.out; omega); have B5 := Aside0.mk hb5; have q6 := hb5.cell 6 _ rfl; have g6 := hb5.frozen 6; clear ho hr hb5)
        have hL := HL.out
        have s6 := (Only.refl (fun k => k = hb) w5).setCell (ad := ⟨hb, 6, none⟩) rfl (.int .i64 nm)
        have R6 := Aside0.mk (HR.out.far (a := ⟨hb, 6, none⟩) (by show hb ≠ rb; omega) (by have := HR.out.lo; show w0.heap.size ≤ hb; omega) (.int .i64 nm))
        have B6 := Aside0.mk (B5.out.set 6 (.int .i64 nm))
        have Z6 := Aside0.mk ((Z4.out.only HO.out (by omega)).far (a := ⟨hb, 6, none⟩) (by show hb ≠ w.heap.size; omega) (.int .i64 nm))
        have V6 := Aside0.mk (R_only (R_only (Kd.R_mono (Kd.R_bound V4.out) (fun _ _ => trivial)) HO.out (fun k e => by omega)) s6 (fun k e => by omega))
        have O6 := Aside0.mk ((O4.out.trans HO.out).setNew (ad := ⟨hb, 6, none⟩) (by show w.heap.size ≤ hb; omega) (.int .i64 nm))
        have hz6 : w4.heap.size ≤ (w5.setCell ⟨hb, 6, none⟩ (.int .i64 nm)).heap.size := Nat.le_trans HO.out.size (by simp [World.setCell])
        clear s6 HR B5 Z4 V4 O4 HO B4 q6 g6 q7 R4 HN
        generalize w5.setCell ⟨hb, 6, none⟩ (.int .i64 nm) = w6 at *
        have Z6s := Aside0.mk hz6
        clear hz6
        have b0 := B6.out.cell 0 _ rfl
        have b1 := B6.out.cell 1 _ rfl
        have b2 := B6.out.cell 2 _ rfl
        have b3 := B6.out.cell 3 _ rfl
        have b4 := B6.out.cell 4 _ rfl
        have b5 := B6.out.cell 5 _ rfl
        have b6 := B6.out.cell 6 _ rfl
        have b7 := B6.out.cell 7 _ rfl
        have z0 := Z6.out.cell 0 _ rfl
        have z1 := Z6.out.cell 1 _ rfl
        have z2 := Z6.out.cell 2 _ rfl
        have z3 := Z6.out.cell 3 _ rfl
        have z4 := Z6.out.cell 4 _ rfl
        have z5 := Z6.out.cell 5 _ rfl
        have z6 := Z6.out.cell 6 _ rfl
        have z7 := Z6.out.cell 7 _ rfl
        have y0 := Z6.out.frozen 0
        have y1 := Z6.out.frozen 1
        have y2 := Z6.out.frozen 2
        have y3 := Z6.out.frozen 3
        have y4 := Z6.out.frozen 4
        have y5 := Z6.out.frozen 5
        have y6 := Z6.out.frozen 6
        have y7 := Z6.out.frozen 7
        have r0 := R6.out.c0
        have n1 : ¬ (rb = w.heap.size) := by omega
        have n2 : ¬ (w.heap.size = rb) := by omega
        clear hL
        go_region
        have hL := HL.out
        change Exit.then _ _ Exit.normal _ (put8 w6 w.heap.size (.int .i64 3) (.int .i64 0) (.slice A3 n3 c3) (.slice none 0 0) (.slice none 0 0) (.int .i64 (f / 4 % 2)) (.int .i64 nm) (.int .i64 (f % 4 + 1))).drew
        have o8 := (put8_only w6 w.heap.size (.int .i64 3) (.int .i64 0) (.slice A3 n3 c3) (.slice none 0 0) (.slice none 0 0) (.int .i64 (f / 4 % 2)) (.int .i64 nm) (.int .i64 (f % 4 + 1))).drew
        have B8 := (put8_blk Z6.out (.int .i64 3) (.int .i64 0) (.slice A3 n3 c3) (.slice none 0 0) (.slice none 0 0) (.int .i64 (f / 4 % 2)) (.int .i64 nm) (.int .i64 (f % 4 + 1))).only ((Only.refl (fun _ => False) _).drew) (fun q => q)
        clear b0 b1 b2 b3 b4 b5 b6 b7 z0 z1 z2 z3 z4 z5 z6 z7 y0 y1 y2 y3 y4 y5 y6 y7 r0 n1 n2
        generalize (put8 w6 w.heap.size (.int .i64 3) (.int .i64 0) (.slice A3 n3 c3) (.slice none 0 0) (.slice none 0 0) (.int .i64 (f / 4 % 2)) (.int .i64 nm) (.int .i64 (f % 4 + 1))).drew = w8 at *
        have O8 := Aside0.mk o8
        have x0 := B8.cell 0 _ rfl
        have x1 := B8.cell 1 _ rfl
        have x2 := B8.cell 2 _ rfl
        have x3 := B8.cell 3 _ rfl
        have x4 := B8.cell 4 _ rfl
        have x5 := B8.cell 5 _ rfl
        have x6 := B8.cell 6 _ rfl
        have x7 := B8.cell 7 _ rfl
        clear hL o8 B8
        go_wp2
        refine bodyPost_ret (v := .tuple #[.agg #[.int .i64 3, .int .i64 0, .slice A3 n3 c3, .slice none 0 0, .slice none 0 0, .int .i64 (f / 4 % 2), .int .i64 nm, .int .i64 (f % 4 + 1)], .int .i64 l.length]) ?_ rfl ?_
        · simp [results, Tryd.results34, go_sem, x0, x1, x2, x3, x4, x5, x6, x7]
        · clear x0 x1 x2 x3 x4 x5 x6 x7
          have hL := HL.out
          have hv := R_only V6.out O8.out (fun k e => by omega)
          refine ⟨_, _, _, rfl, ⟨w2.heap.size, w8.heap.size, w8.heap.size, w8.heap.size, by omega, by have := L4.out; have := Z4s.out; have := Z6s.out; have := O8.out.size; omega, Nat.le_refl _, Nat.le_refl _, Kd.R_mono (Kd.R_bound hv) (fun k hk => ⟨hk.2.1, hk.2.2.1⟩), Kd.R_nil _ _ _ _ _, Kd.R_nil _ _ _ _ _⟩, R6.out.only O8.out (by omega) (by have := R6.out.lo; have := R6.out.bl.size; omega), ?_⟩
          have := O6.out
          exact ⟨O8.out.os.trans this.os, O8.out.tape.trans this.tape, O8.out.output.trans this.output, Nat.le_trans this.size O8.out.size, fun k hk hn => (O8.out.block k (Nat.lt_of_lt_of_le hk this.size) (fun e => by omega)).trans (this.block k hk hn)⟩
  · rw [decide_eq_false hq] at a3
    obtain rfl : .error 3 = r := (show hShort l f 1 = .error 3 by unfold hShort; rw [if_neg hq]).symm.trans HRr.out
    clear hq HRr
    go_wp2_with (go_at_call 39; refine (need_bad _ _).mono ?_; rintro e1 w1 ⟨rfl, rfl⟩)
    exact ⟨rfl, rfl, O2.out⟩
end Go.Proofs.YtpihkmpcnkhnfaaDoor.Hr
