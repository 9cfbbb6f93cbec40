/- A part of the proof of the law HeaderWrites: QHex0, QVax0, Vn, Gv0, Gv1. -/
import Derived.Test.YtbcleckapamicaaDoorProg
import Derived.Below
import Derived.Deep.Draws
import Derived.Deep.AppendLies
import Derived.Maps.AppendAt
import Derived.OwnWalk
import Derived.Laws.BytesArg
import Derived.Laws.MakeOwn
import Derived.Laws.OwnMore
import Derived.Deep.OwnRows
import Derived.Tactics
import Derived.Lib.ConvBytes
import Derived.Laws.Slices
import Derived.WalkKit
import Derived.KernelRfl
import Derived.RowKit3
import Derived.Deep.LoopGhost
import Derived.Deep.QuietTactic
import Derived.BigQuiet
import Derived.WideLaws
import Derived.Deep.DeepCutAuto
import Derived.Deep.CutBlock
import Derived.Deep.RegionHeld3
import Derived.Laws.Rows
import Derived.Lib.AppendStr
import Derived.ArgAppend
import Derived.Laws.IdiomCopy
import Derived.OrdersHeld
import Derived.Laws.BitsLemmas
import Derived.RowKit
import Derived.Test.YtbcleckapamicaaDoorZHw00
import Derived.Test.YtbcleckapamicaaDoorZHw01
import Derived.Laws.BitsAllLaws
import Derived.WalkSpells
import Derived.Lib.SliceRun
namespace Go.Proofs.YtbcleckapamicaaDoor.QHe
open Go.RowKit Go.Proofs.YtbcleckapamicaaDoorW.PrintWords Go.Proofs.YtbcleckapamicaaDoorW.PrintLast Go.Proofs.YtbcleckapamicaaDoorW.PrintMore
attribute [local go_sem] max2_int min2_int max_two min_two max_three min_three max_four min_four   -- for this text's walks alone
set_option linter.unusedVariables false
set_option linter.unusedSimpArgs false
def errW : Option Int → Value
 | none => .nilIface
 | some c => .iface 0 (.int .i64 c)
theorem errW_none : errW none = .nilIface := rfl
theorem errW_some (c : Int) : errW (some c) = .iface 0 (.int .i64 c) := rfl
theorem info5 : (Tryd.prog.info? 5).map (fun i => (i.zero, i.size, i.bytes)) = some (some (.int .u8 0), 1, 1) := by kernel_rfl
end Go.Proofs.YtbcleckapamicaaDoor.QHe
namespace Go.Proofs.YtbcleckapamicaaDoor.QVa
open Go.RowKit Go.Proofs.YtbcleckapamicaaDoorW.PrintWords Go.Proofs.YtbcleckapamicaaDoorW.PrintLast Go.Proofs.YtbcleckapamicaaDoorW.PrintMore
attribute [local go_sem] max2_int min2_int max_two min_two max_three min_three max_four min_four   -- for this text's walks alone
set_option linter.unusedVariables false
set_option linter.unusedSimpArgs false
def errW : Option Int → Value
 | none => .nilIface
 | some c => .iface 0 (.int .i64 c)
theorem errW_none : errW none = .nilIface := rfl
theorem errW_some (c : Int) : errW (some c) = .iface 0 (.int .i64 c) := rfl
theorem info5 : (Tryd.prog.info? 5).map (fun i => (i.zero, i.size, i.bytes)) = some (some (.int .u8 0), 1, 1) := by kernel_rfl
end Go.Proofs.YtbcleckapamicaaDoor.QVa
namespace Go.Proofs.YtbcleckapamicaaDoor.Vn
open Go.RowKit Go.Proofs.YtbcleckapamicaaDoorW.PrintWords
set_option linter.unusedVariables false
def vsize (n : Int) : Int := if n < 0 ∨ n > 4611686018427387903 then 0 else if n < 64 then 1 else if n < 16384 then 2 else if n < 1073741824 then 4 else 8
def Bytes (l : List Int) : Prop := ∀ x, x ∈ l → 0 ≤ x ∧ x ≤ 255
instance (l : List Int) : Decidable (Bytes l) := inferInstanceAs (Decidable (∀ x, x ∈ l → 0 ≤ x ∧ x ≤ 255))
def num (n : Int) (l : List Int) : Int := l.foldl (fun n c => 256 * n + c) n
def vread (l : List Int) : Int × Int × Int :=
  if l.length = 0 then (0, 0, 2) else
  if l.length < 2 ^ (rd l 0 / 64).toNat then (0, 0, 2) else
  if vsize (num (rd l 0 % 64) ((l.take (2 ^ (rd l 0 / 64).toNat)).drop 1)) = ((2 ^ (rd l 0 / 64).toNat : Nat) : Int) then (num (rd l 0 % 64) ((l.take (2 ^ (rd l 0 / 64).toNat)).drop 1), ((2 ^ (rd l 0 / 64).toNat : Nat) : Int), 0) else (0, 0, 3)
theorem num_snoc (n : Int) (l : List Int) (c : Int) : num n (l ++ [c]) = 256 * num n l + c := by simp [num]
theorem num_take (n : Int) (l : List Int) (k : Nat) (hk : k < l.length) : num n (l.take (k + 1)) = 256 * num n (l.take k) + rd l k := by
  rw [List.take_succ_eq_append_getElem hk, num_snoc]
  simp [rd, List.getD_eq_getElem?_getD, List.getElem?_eq_getElem hk]
theorem bytes_rd {l : List Int} (h : Bytes l) (i : Nat) (hi : i < l.length) : 0 ≤ rd l i ∧ rd l i ≤ 255 := by
  have : rd l i = l[i] := by simp [rd, List.getD_eq_getElem?_getD, List.getElem?_eq_getElem hi]
  rw [this]; exact h _ (List.getElem_mem hi)
theorem Bytes.take {l : List Int} (h : Bytes l) (n : Nat) : Bytes (l.take n) := fun x hx => h x (List.mem_of_mem_take hx)
theorem Bytes.drop {l : List Int} (h : Bytes l) (n : Nat) : Bytes (l.drop n) := fun x hx => h x (List.mem_of_mem_drop hx)
theorem Bytes.append {l m : List Int} (h : Bytes l) (h' : Bytes m) : Bytes (l ++ m) := fun x hx => (List.mem_append.1 hx).elim (h x) (h' x)
theorem num_range (n : Int) (h0 : 0 ≤ n) (h1 : n < 64) (l : List Int) (hb : Bytes l) : ∀ k : Nat, k ≤ l.length → 0 ≤ num n (l.take k) ∧ num n (l.take k) < 64 * 256 ^ k := by
  intro k
  induction k with
  | zero => intro _; simp [num]; omega
  | succ k ih =>
    intro hk
    obtain ⟨a, b⟩ := ih (by omega)
    obtain ⟨c, d⟩ := bytes_rd hb k (by omega)
    rw [num_take n l k (by omega), Int.pow_succ]
    constructor
    · omega
    · have : num n (l.take k) + 1 ≤ 64 * 256 ^ k := b
      have := Int.mul_le_mul_of_nonneg_left this (show (0 : Int) ≤ 256 by decide)
      rw [← Int.mul_assoc, Int.mul_comm 256 64, Int.mul_assoc] at this
      rw [Int.mul_comm (256 ^ k) 256]
      omega
theorem pow256 (k : Nat) (hk : k ≤ 6) : (256 : Int) ^ k ≤ 281474976710656 := by
  have : ∀ j : Fin 7, (256 : Int) ^ (j : Nat) ≤ 281474976710656 := by decide
  exact this ⟨k, by omega⟩
theorem pow256' (k : Nat) (hk : k ≤ 7) : (256 : Int) ^ k ≤ 72057594037927936 := by
  have : ∀ j : Fin 8, (256 : Int) ^ (j : Nat) ≤ 72057594037927936 := by decide
  exact this ⟨k, by omega⟩
theorem or_byte (v c : Int) (h0 : 0 ≤ v) (h1 : v < 72057594037927936) (hc : 0 ≤ c) (hc' : c ≤ 255) : bits BinOp.or IntKind.u64 (IntKind.u64.wrap (v * 256)) (IntKind.u64.wrap c) = 256 * v + c := by
  have e1 : IntKind.u64.wrap (v * 256) = v * 256 := by simp [IntKind.wrap, IntKind.bits, IntKind.signed]; omega
  have e2 : IntKind.u64.wrap c = c := by simp [IntKind.wrap, IntKind.bits, IntKind.signed]; omega
  rw [e1, e2, u64_or (v * 256) c (by omega) (by omega) hc (by omega)]
  have h := Nat.shiftLeft_add_eq_or_of_lt (i := 8) (b := c.toNat) (by omega) v.toNat
  rw [Nat.shiftLeft_eq] at h
  have e3 : (v * 256).toNat = v.toNat * 2 ^ 8 := by omega
  rw [e3, ← h]
  omega
theorem and63 (b : Int) (h0 : 0 ≤ b) (h1 : b ≤ 255) : bits BinOp.and IntKind.u8 b 63 = b % 64 := by
  have : ∀ j : Fin 256, bits BinOp.and IntKind.u8 ((j : Nat) : Int) 63 = ((j : Nat) : Int) % 64 := by decide +kernel
  have h := this ⟨b.toNat, by omega⟩
  simp only [] at h
  rwa [Int.toNat_of_nonneg h0] at h
end Go.Proofs.YtbcleckapamicaaDoor.Vn
namespace Go.Proofs.YtbcleckapamicaaDoor.Vn
open Go.RowKit Go.Proofs.YtbcleckapamicaaDoorW.PrintWords
set_option linter.unusedVariables false
set_option linter.unusedSimpArgs false
def vbytes (n : Int) : List Int :=
  if n < 0 ∨ n > 4611686018427387903 then [] else
  if n < 64 then [n] else
  if n < 16384 then [n / 256 + 64, n % 256] else
  if n < 1073741824 then [n / 16777216 + 128, n / 65536 % 256, n / 256 % 256, n % 256] else
  [n / 72057594037927936 + 192, n / 281474976710656 % 256, n / 1099511627776 % 256, n / 4294967296 % 256, n / 16777216 % 256, n / 65536 % 256, n / 256 % 256, n % 256]
theorem vsize_cases (n : Int) : (n < 0 ∨ n > 4611686018427387903) ∧ vsize n = 0 ∧ vbytes n = [] ∨ (0 ≤ n ∧ n < 64) ∧ vsize n = 1 ∧ vbytes n = [n] ∨ (64 ≤ n ∧ n < 16384) ∧ vsize n = 2 ∧ vbytes n = [n / 256 + 64, n % 256] ∨
    (16384 ≤ n ∧ n < 1073741824) ∧ vsize n = 4 ∧ vbytes n = [n / 16777216 + 128, n / 65536 % 256, n / 256 % 256, n % 256] ∨
    (1073741824 ≤ n ∧ n < 4611686018427387904) ∧ vsize n = 8 ∧ vbytes n = [n / 72057594037927936 + 192, n / 281474976710656 % 256, n / 1099511627776 % 256, n / 4294967296 % 256, n / 16777216 % 256, n / 65536 % 256, n / 256 % 256, n % 256] := by
  unfold vsize vbytes
  by_cases h1 : n < 0 ∨ n > 4611686018427387903
  · left; simp only [if_pos h1]; exact ⟨h1, trivial, trivial⟩
  by_cases h2 : n < 64
  · right; left; simp only [if_neg h1, if_pos h2]; exact ⟨⟨by omega, h2⟩, trivial, trivial⟩
  by_cases h3 : n < 16384
  · right; right; left; simp only [if_neg h1, if_neg h2, if_pos h3]; exact ⟨⟨by omega, h3⟩, trivial, trivial⟩
  by_cases h4 : n < 1073741824
  · right; right; right; left; simp only [if_neg h1, if_neg h2, if_neg h3, if_pos h4]; exact ⟨⟨by omega, h4⟩, trivial, trivial⟩
  · right; right; right; right; simp only [if_neg h1, if_neg h2, if_neg h3, if_neg h4]; exact ⟨⟨by omega, by omega⟩, trivial, trivial⟩
theorem vbytes_le (n : Int) : (vbytes n).length ≤ 8 := by
  rcases vsize_cases n with ⟨_, h, e⟩ | ⟨_, h, e⟩ | ⟨_, h, e⟩ | ⟨_, h, e⟩ | ⟨_, h, e⟩ <;> rw [e] <;> simp
end Go.Proofs.YtbcleckapamicaaDoor.Vn
namespace Go.Proofs.YtbcleckapamicaaDoor.Gv
open Go.RowKit Go.Proofs.YtbcleckapamicaaDoorW.PrintWords Go.Proofs.YtbcleckapamicaaDoorW.PrintLast Go.Proofs.YtbcleckapamicaaDoorW.PrintMore
set_option linter.unusedVariables false
set_option linter.unusedSimpArgs false
def tab64 : List Int := [0, 1, 56, 2, 57, 49, 28, 3, 61, 58, 42, 50, 38, 29, 17, 4, 62, 47, 59, 36, 45, 43, 51, 22, 53, 39, 33, 30, 24, 18, 12, 5, 63, 55, 48, 27, 60, 41, 37, 16, 46, 35, 44, 21, 52, 32, 23, 11, 54, 26, 40, 15, 34, 20, 31, 10, 25, 14, 19, 9, 13, 8, 7, 6]
structure TB (w : World) : Prop where
  out : ∀ i, i < 64 → w.cell? ⟨1, i, none⟩ = some (.int .u8 (tab64.getD i 0))
theorem TB.below {w W : World} (h : TB w) (hb : Below w.heap.size w W) : TB W := ⟨fun i hi => pw_cell_below hb (h.out i hi)⟩
theorem TB.alloc {w : World} (h : TB w) (o : Obj) : TB (w.alloc o) := h.below (below_alloc (Below.refl _ _) o)
theorem TB.drew {w : World} (h : TB w) : TB w.drew := h.below (below_drew (Below.refl _ _))
theorem TB.drewN {w : World} (h : TB w) (n : Nat) : TB (w.drewN n) := h.below (pw_below_drewN (Below.refl _ _) n)
def bits_TrailingZeros.f (a0 : Int) : Option Int := if a0 = 1 then some 0 else if a0 = 2 then some 1 else if a0 = 4 then some 2 else if a0 = 8 then some 3 else none
theorem tz64 (a0 r : Int) (w : World) (ht : TB w) (h : bits_TrailingZeros.f a0 = some r) : Calls Tryd.prog 86 #[.int .u64 a0] w fun e w' => e = .returned (.int .i64 r) ∧ Drawn0 w w' := by
  have h0 := ht.out 0 (by decide)
  have h1 := ht.out 1 (by decide)
  have h3 := ht.out 3 (by decide)
  have h7 := ht.out 7 (by decide)
  simp only [tab64, List.getD_cons_zero, List.getD_cons_succ] at h0 h1 h3 h7
  clear ht
  unfold bits_TrailingZeros.f at h
  split at h
  · rename_i e; subst e
    obtain rfl := Option.some.inj h
    clear h h1 h3 h7
    have e1 : bits BinOp.and IntKind.u64 1 (IntKind.u64.wrap (-1)) = 1 := by decide +kernel
    have e2 : IntKind.u64.wrap 285870213051353865 = 285870213051353865 := by decide +kernel
    go_enter Tryd.func86, Tryd.ntmps86
    go_wp2
    go_ret
    exact ⟨rfl, Drawn0.refl _⟩
  split at h
  · rename_i e; subst e
    obtain rfl := Option.some.inj h
    clear h h0 h3 h7
    have e1 : bits BinOp.and IntKind.u64 2 (IntKind.u64.wrap (-2)) = 2 := by decide +kernel
    have e2 : IntKind.u64.wrap 571740426102707730 = 571740426102707730 := by decide +kernel
    go_enter Tryd.func86, Tryd.ntmps86
    go_wp2
    go_ret
    exact ⟨rfl, Drawn0.refl _⟩
  split at h
  · rename_i e; subst e
    obtain rfl := Option.some.inj h
    clear h h0 h1 h7
    have e1 : bits BinOp.and IntKind.u64 4 (IntKind.u64.wrap (-4)) = 4 := by decide +kernel
    have e2 : IntKind.u64.wrap 1143480852205415460 = 1143480852205415460 := by decide +kernel
    go_enter Tryd.func86, Tryd.ntmps86
    go_wp2
    go_ret
    exact ⟨rfl, Drawn0.refl _⟩
  split at h
  · rename_i e; subst e
    obtain rfl := Option.some.inj h
    clear h h0 h1 h3
    have e1 : bits BinOp.and IntKind.u64 8 (IntKind.u64.wrap (-8)) = 8 := by decide +kernel
    have e2 : IntKind.u64.wrap 2286961704410830920 = 2286961704410830920 := by decide +kernel
    go_enter Tryd.func86, Tryd.ntmps86
    go_wp2
    go_ret
    exact ⟨rfl, Drawn0.refl _⟩
  · cases h
theorem bits_TrailingZeros.calls (a0 r : Int) (w : World) (ht : TB w) (h : bits_TrailingZeros.f a0 = some r) : Calls Tryd.prog 58 #[.int .u64 a0] w fun e w' => e = .returned (.int .i64 r) ∧ Drawn0 w w' := by
  have H := tz64 a0 r w ht h
  clear ht h
  go_enter Tryd.func58, Tryd.ntmps58
  go_wp2_with (go_at_call 86; refine H.mono ?_; rintro e w' ⟨rfl, ⟨n, rfl⟩⟩)
  go_ret
  exact ⟨rfl, ⟨⟨_, rfl⟩⟩⟩
theorem info5 : (Tryd.prog.info? 5).map (fun i => (i.zero, i.size, i.bytes)) = some (some (.int .u8 0), 1, 1) := by kernel_rfl
def slices_Clone_byte_byte.f (l0 : List Int) : Option (List Int) := if l0.length ≤ 140737488355328 then some l0 else none
set_option maxHeartbeats 1000000 in
theorem slices_Clone_byte_byte.calls (A0 : Option Addr) (c0 : Nat) (l0 : List Int) (r : List Int) (w : World) (hr0 : Kd.C (Kd.int .u8) w A0 l0.length l0) (hc0 : l0.length ≤ c0) (h : slices_Clone_byte_byte.f l0 = some r) :
    Calls Tryd.prog 57 #[.slice A0 l0.length c0] w fun e w' => ∃ v0_ : Value, e = .returned (v0_) ∧ Kd.R (Kd.int .u8) 5 w' w.heap.size (fun _ => True) v0_ r ∧ Below w.heap.size w w' := by
  unfold slices_Clone_byte_byte.f at h
  by_cases hl : l0.length ≤ 140737488355328
  · rw [if_pos hl] at h
    obtain rfl := Option.some.inj h
    clear h
    have q : ∀ (w : World) (a : Option Addr) (n c n' c' : Nat), (binOp .eql 22 (.slice a n c) (.slice none n' c')).run Tryd.prog w = .ok (.bool a.isNone) w := fun w a n c n' c' => Lib.run_eql_slice_nil w _ _ a n c n' c' Tryd.underlying22
    have HR0 := Aside0.mk hr0
    clear hr0
    have HB := Aside0.mk (Below.refl w.heap.size w)
    rcases A0 with _ | ad
    · have e0 : l0 = [] := by
        rcases Nat.eq_zero_or_pos l0.length with h0 | h0
        · exact List.eq_nil_of_length_eq_zero h0
        · obtain ⟨ad, h1, _⟩ := HR0.out.2.2 h0
          cases h1
      subst e0
      clear HR0
      go_enter Tryd.func57, Tryd.ntmps57
      go_wp2
      go_ret
      exact ⟨_, rfl, Kd.R_nil _ _ _ _ _, HB.out⟩
    · have HO := Aside0.mk (Kd.R_of_own (h1 := fun _ => rfl) (enc := Value.int .u8) (xs := []) (ok := fun _ => True) (own_lit w w.heap.size 5 .u8 [] (Nat.le_refl _) (by simp)) (fun _ _ => trivial))
      go_enter Tryd.func57, Tryd.ntmps57
      go_wp2_with ((with_reducible refine gate_builtin (b := .append) (xs := #[.tmp 5, .tmp 6]) rfl ?_); at_builtin; refine Kd.R_append_rows (Kd.int .u8) (w0 := w) w.heap.size rfl (.tmp 5) (.tmp 6) 22 5 (.int .u8 0) 1 rfl Tryd.underlying22 info5 rfl (by decide) (by omega) _ [] l0 _ _ _ (fun _ => True) (fun _ => False) rfl rfl ?aO ?aR (fun _ _ h => h) (fun _ h => h.elim) ?aF ?aB ?aS ?aL ?_; (case aO => exact HO.out); (case aR => exact Kd.C_alloc HR0.out _); (case aB => exact below_alloc HB.out _); (case aF => exact (fun _ _ => trivial)); (case aS => simp); (case aL => simpa using hl); intro v w5 ho hb hg hat)
      go_ret
      exact ⟨_, rfl, by simpa using ho, hb⟩
  · rw [if_neg hl] at h; cases h
end Go.Proofs.YtbcleckapamicaaDoor.Gv
namespace Go.Proofs.YtbcleckapamicaaDoor.Gv
open Go.RowKit Go.Proofs.YtbcleckapamicaaDoorW.PrintWords Go.Proofs.YtbcleckapamicaaDoorW.PrintLast Go.Proofs.YtbcleckapamicaaDoorW.PrintMore Go.Proofs.YtbcleckapamicaaDoor.Vn
set_option linter.unusedVariables false
set_option linter.unusedSimpArgs false
theorem size_calls (n : Int) (w : World) : Calls Tryd.prog 24 #[.int .i64 n] w fun e w' => e = .returned (.int .i64 (vsize n)) ∧ Drawn0 w w' := by
  by_cases h1 : n < 0
  · have e : vsize n = 0 := by simp [vsize, h1]
    rw [e]; clear e
    go_enter Tryd.func24, Tryd.ntmps24
    go_wp2
    go_ret
    exact ⟨rfl, Drawn0.refl _⟩
  by_cases h2 : 4611686018427387903 < n
  · have e : vsize n = 0 := by simp [vsize, h2]
    rw [e]; clear e
    go_enter Tryd.func24, Tryd.ntmps24
    go_wp2
    go_ret
    exact ⟨rfl, Drawn0.refl _⟩
  have e0 : vsize n = if n < 64 then 1 else if n < 16384 then 2 else if n < 1073741824 then 4 else 8 := by unfold vsize; rw [if_neg (by omega)]
  by_cases h3 : n < 64
  · rw [if_pos h3] at e0; rw [e0]; clear e0
    go_enter Tryd.func24, Tryd.ntmps24
    go_wp2
    go_ret
    exact ⟨rfl, Drawn0.refl _⟩
  rw [if_neg h3] at e0
  by_cases h4 : n < 16384
  · rw [if_pos h4] at e0; rw [e0]; clear e0
    go_enter Tryd.func24, Tryd.ntmps24
    go_wp2
    go_ret
    exact ⟨rfl, Drawn0.refl _⟩
  rw [if_neg h4] at e0
  by_cases h5 : n < 1073741824
  · rw [if_pos h5] at e0; rw [e0]; clear e0
    go_enter Tryd.func24, Tryd.ntmps24
    go_wp2
    go_ret
    exact ⟨rfl, Drawn0.refl _⟩
  · rw [if_neg h5] at e0; rw [e0]; clear e0
    go_enter Tryd.func24, Tryd.ntmps24
    go_wp2
    go_ret
    exact ⟨rfl, Drawn0.refl _⟩
def varint_Size.f (a0 : Int) : Option Int := some (vsize a0)
theorem varint_Size.calls (a0 r : Int) (w : World) (h : varint_Size.f a0 = some r) : Calls Tryd.prog 24 #[.int .i64 a0] w fun e w' => e = .returned (.int .i64 r) ∧ Drawn0 w w' := by
  obtain rfl : vsize a0 = r := Option.some.inj h
  exact size_calls a0 w
def varint_Read.f (l0 : List Int) : Option (Int × Int × Int) := if Bytes l0 then some (vread l0) else none
theorem read_at (q : Nat) (hq : q < 4) (A0 : Option Addr) (c0 : Nat) (l0 : List Int) (w : World) (hr0 : Kd.C (Kd.int .u8) w A0 l0.length l0) (hc0 : l0.length ≤ c0) (hB : Bytes l0) (hpos : 0 < l0.length) (hqq : rd l0 0 / 64 = (q : Int))
    (hlen : 2 ^ q ≤ l0.length) : Calls Tryd.prog 27 #[.slice A0 l0.length c0] w fun e w' => e = .returned (.tuple #[.int .i64 (vread l0).1, .int .i64 (vread l0).2.1, .int .i64 (vread l0).2.2]) ∧ Drawn0 w w' := by
  obtain ⟨sz, hsz⟩ : ∃ sz : Nat, sz = 2 ^ q := ⟨_, rfl⟩
  have hsz8 : 1 ≤ sz ∧ sz ≤ 8 := by
    have : ∀ j : Fin 4, 1 ≤ 2 ^ (j : Nat) ∧ 2 ^ (j : Nat) ≤ 8 := by decide
    rw [hsz]; exact this ⟨q, hq⟩
  obtain ⟨t, ht⟩ : ∃ t, t = (l0.take sz).drop 1 := ⟨_, rfl⟩
  have htl : t.length = sz - 1 := by rw [ht, List.length_drop, List.length_take]; omega
  have hBt : Bytes t := by rw [ht]; exact (hB.take _).drop _
  have hb0 : 0 ≤ rd l0 0 ∧ rd l0 0 ≤ 255 := bytes_rd hB 0 hpos
  have hv : vread l0 = if vsize (num (rd l0 0 % 64) t) = (sz : Int) then (num (rd l0 0 % 64) t, (sz : Int), 0) else (0, 0, 3) := by
    unfold vread
    rw [if_neg (by omega), hqq, Int.toNat_natCast, ← hsz, if_neg (by omega), ← ht]
  have hszl : sz ≤ l0.length := by rw [hsz]; exact hlen
  have hsh : wrap64 (2 ^ q) = (sz : Int) := by
    rw [hsz]
    have : ∀ j : Fin 4, wrap64 (2 ^ (j : Nat)) = ((2 ^ (j : Nat) : Nat) : Int) := by decide +kernel
    exact this ⟨q, hq⟩
  obtain ⟨b0, hb⟩ : ∃ b0, b0 = rd l0 0 := ⟨_, rfl⟩
  obtain ⟨ad, rfl, hcell⟩ := Kd.at_int hr0 0 (by omega) (by omega)
  have hm := hr0.2.1
  obtain ⟨i0, hi, hz0, hz1, hz2⟩ := info_parts info5
  obtain ⟨A', hcut, hct, _⟩ := print_mid_of (P := Tryd.prog) (Value.int .u8) (0 : Int) 22 5 .i64 .i64 Tryd.underlying22 hi hz1 (some ad) c0 l0 1 (sz : Int) (by omega) (by omega) (by omega) hc0
  have HT := Aside0.mk (Kd.C_of_reads (h1 := fun _ => rfl) (hct w (Kd.reads_of_C hr0)))
  rw [show (1 : Int).toNat = 1 from rfl, Int.toNat_natCast, ← ht] at HT hcut
  rw [← hb] at hqq hcell hb0 hv
  clear hct hr0 hi hz0 hz1 hz2 hb
  have hand := and63 b0 hb0.1 hb0.2
  have hm6 : 0 ≤ b0 % 64 ∧ b0 % 64 < 64 := by omega
  obtain ⟨n0, hn0⟩ : ∃ n0, n0 = b0 % 64 := ⟨_, rfl⟩
  rw [← hn0] at hand hm6 hv
  clear hn0
  have hls : decide (l0.length < sz) = false := decide_eq_false (by omega)
  have hlz : (l0.length == 0) = false := beq_eq_false_iff_ne.2 (by omega)
  have hN := num_range n0 hm6.1 hm6.2 t hBt
  have hcells : ∀ k : Nat, k < t.length → ∃ a', A' = some a' ∧ w.cell? (a'.add k) = some (.int .u8 (rd t k)) := by
    intro k hk
    obtain ⟨a', e, h⟩ := Kd.at_int HT.out (k : Int) (by omega) (by omega)
    exact ⟨a', e, by rwa [Int.toNat_natCast] at h⟩
  have hl7 : t.length ≤ 7 := by omega
  have HV := Aside0.mk hv
  have HL := Aside0.mk htl
  have HB := Aside0.mk hBt
  have HN := Aside0.mk hN
  have HC := Aside0.mk hcells
  have HQ := Aside0.mk ht
  have HS := Aside0.mk hsh
  clear hv htl hBt hsz ht hB hN hcells HT hsz8
  rw [show (ad.add (0 : Int).toNat) = ad from rfl] at hcell
  have hun : IntKind.u64.wrap n0 = n0 := by simp [IntKind.wrap, IntKind.bits, IntKind.signed]; omega
  go_enter Tryd.func27, Tryd.ntmps27
  go_wp2
  clear hls hlz hun hand hqq hcell hcut
  go_loopg [5, 29] t.length (fun gg v5 v29 wr => ∃ kk : Nat, kk ≤ t.length ∧ t.length - kk ≤ gg ∧ v5 = .int .u64 (num n0 (t.take kk)) ∧ v29 = .int .i64 kk ∧ wr = w)
  case atStart => exact ⟨0, Nat.zero_le _, by omega, rfl, rfl, rfl⟩
  case round =>
    obtain ⟨kk, hkk, hg, rfl, rfl, rfl⟩ := hrel
    have hr := HN.out kk hkk
    by_cases hlt : kk < t.length
    · have hltz : (kk : Int) < (t.length : Int) := by omega
      obtain ⟨a', rfl, hc⟩ := HC.out kk hlt
      have hcb := bytes_rd HB.out kk hlt
      have hor := or_byte (num n0 (t.take kk)) (rd t kk) hr.1 (by have := pow256 kk (by omega); omega) hcb.1 hcb.2
      have hnt := num_take n0 t kk hlt
      rw [← hnt, show IntKind.u64.wrap (rd t kk) = rd t kk from by simp [IntKind.wrap, IntKind.bits, IntKind.signed]; omega] at hor
      generalize rd t kk = c at *
      have HNT := Aside0.mk hnt
      clear hnt
      go_wp2
      go_roundg (t.length - (kk + 1))
      case measure => omega
      case rel => exact ⟨kk + 1, by omega, by omega, rfl, by go_num, rfl⟩
    · have hltz : ¬ (kk : Int) < (t.length : Int) := by omega
      have hkl : kk = t.length := by omega
      rw [hkl, List.take_of_length_le (Nat.le_refl _)] at hr
      have hrange : num n0 t < 4611686018427387904 := by have := pow256' t.length (by omega); omega
      have hun : num n0 (t.take kk) = num n0 t := by rw [hkl, List.take_of_length_le (Nat.le_refl _)]
      rw [hun]
      have hw : wrap64 (num n0 t) = num n0 t := by unfold wrap64; omega
      have hcall := size_calls (num n0 t) wr
      clear hun hkl HN hl7
      generalize num n0 t = v at *
      by_cases he : vsize v = (sz : Int)
      · have hv := HV.out
        rw [if_pos he] at hv
        have b1 : (vsize v != wrap64 (2 ^ q)) = false := by rw [HS.out, he]; simp
        have HE := Aside0.mk he
        have HV2 := Aside0.mk hv
        clear he hv HV
        go_wp2_with (go_at_call 24; refine hcall.mono ?_; rintro e w' ⟨rfl, ⟨n, rfl⟩⟩)
        go_ret3
        exact ⟨by rw [HV2.out, ← HS.out]; rfl, ⟨⟨_, rfl⟩⟩⟩
      · have hv := HV.out
        rw [if_neg he] at hv
        have b1 : (vsize v != wrap64 (2 ^ q)) = true := by rw [HS.out]; simpa using he
        have HV2 := Aside0.mk hv
        clear he hv HV
        go_wp2_with (go_at_call 24; refine hcall.mono ?_; rintro e w' ⟨rfl, ⟨n, rfl⟩⟩)
        go_ret3
        exact ⟨by rw [HV2.out]; rfl, ⟨⟨_, rfl⟩⟩⟩
theorem varint_Read.calls (A0 : Option Addr) (c0 : Nat) (l0 : List Int) (r1 r2 r3 : Int) (w : World) (hr0 : Kd.C (Kd.int .u8) w A0 l0.length l0) (hc0 : l0.length ≤ c0) (h : varint_Read.f l0 = some (r1, r2, r3)) :
    Calls Tryd.prog 27 #[.slice A0 l0.length c0] w fun e w' => e = .returned (.tuple #[.int .i64 r1, .int .i64 r2, .int .i64 r3]) ∧ Drawn0 w w' := by
  unfold varint_Read.f at h
  by_cases hB : Bytes l0
  · rw [if_pos hB] at h
    have h' := Option.some.inj h
    obtain ⟨e1, e2, e3⟩ : r1 = (vread l0).1 ∧ r2 = (vread l0).2.1 ∧ r3 = (vread l0).2.2 := by rw [h']; exact ⟨rfl, rfl, rfl⟩
    subst e1 e2 e3
    clear h h'
    by_cases h0 : l0.length = 0
    · have hv : vread l0 = (0, 0, 2) := by unfold vread; rw [if_pos h0]
      rw [hv]
      have h1 : (l0.length == 0) = true := by simpa using h0
      clear hv h0 hr0 hB hc0
      go_enter Tryd.func27, Tryd.ntmps27
      go_wp2
      go_ret3
      exact ⟨rfl, Drawn0.refl _⟩
    · have hb0 : 0 ≤ rd l0 0 ∧ rd l0 0 ≤ 255 := bytes_rd hB 0 (by omega)
      obtain ⟨q, hq⟩ : ∃ q : Nat, rd l0 0 / 64 = (q : Int) := ⟨(rd l0 0 / 64).toNat, by omega⟩
      have hq4 : q < 4 := by omega
      by_cases hl : 2 ^ q ≤ l0.length
      · exact read_at q hq4 A0 c0 l0 w hr0 hc0 hB (by omega) hq hl
      · have hv : vread l0 = (0, 0, 2) := by unfold vread; rw [if_neg h0, hq, Int.toNat_natCast, if_pos (by omega)]
        rw [hv]
        obtain ⟨ad, rfl, hcell⟩ := Kd.at_int hr0 0 (by omega) (by omega)
        rw [show (ad.add (0 : Int).toNat) = ad from rfl] at hcell
        generalize rd l0 0 = b0 at *
        have hsh : wrap64 (2 ^ q) = ((2 ^ q : Nat) : Int) := by
          have : ∀ j : Fin 4, wrap64 (2 ^ (j : Nat)) = ((2 ^ (j : Nat) : Nat) : Int) := by decide +kernel
          exact this ⟨q, hq4⟩
        have hls : decide ((l0.length : Int) < wrap64 (2 ^ q)) = true := decide_eq_true (by rw [hsh]; omega)
        have hm := hr0.2.1
        have hpos : 0 < l0.length := by omega
        have hlz : (l0.length == 0) = false := beq_eq_false_iff_ne.2 h0
        clear hsh hv hl h0 hr0 hB hb0
        go_enter Tryd.func27, Tryd.ntmps27
        go_wp2
        go_ret3
        exact ⟨rfl, Drawn0.refl _⟩
  · rw [if_neg hB] at h; cases h
end Go.Proofs.YtbcleckapamicaaDoor.Gv
