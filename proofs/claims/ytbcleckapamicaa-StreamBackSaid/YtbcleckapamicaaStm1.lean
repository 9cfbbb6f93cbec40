/- Plain: what a stream's operations answer, over functions from places to bytes. -/
import Derived.Test.YtbcleckapamicaaStm0
import Derived.Laws.BitsAllLaws
namespace Go.Proofs.Ytbcleckapamicaa.Stm
open Go Go.RowKit Go.Proofs.YtbcleckapamicaaW.PrintWords
set_option linter.unusedVariables false
set_option linter.unusedSimpArgs false

abbrev Fn := Int → Option Int
def Bytes (l : List Int) : Prop := ∀ x, x ∈ l → 0 ≤ x ∧ x ≤ 255
instance (l : List Int) : Decidable (Bytes l) := inferInstanceAs (Decidable (∀ x, x ∈ l → 0 ≤ x ∧ x ≤ 255))
theorem bytes_rd {l : List Int} (h : Bytes l) (i : Nat) (hi : i < l.length) : 0 ≤ rd l i ∧ rd l i ≤ 255 := by
  have : rd l i = l[i] := by simp [rd, List.getD_eq_getElem?_getD, List.getElem?_eq_getElem hi]
  rw [this]; exact h _ (List.getElem_mem hi)
/-- All that F tells is a byte. -/
def FB (F : Fn) : Prop := ∀ k c, F k = some c → 0 ≤ c ∧ c ≤ 255

def fits (F : Fn) (p : Int) (l : List Int) (j : Nat) : Prop := ∀ i : Nat, i < j → ∀ c, F (p + i) = some c → c = rd l i
def stored (F : Fn) (t p : Int) (l : List Int) (j : Nat) : Fn := fun k => if t ≤ k ∧ p ≤ k ∧ k < p + j then some (rd l (k - p)) else F k
theorem stored_zero (F : Fn) (t p : Int) (l : List Int) : stored F t p l 0 = F := by
  funext k
  unfold stored
  rw [if_neg (by omega)]
theorem stored_put (F : Fn) (t p : Int) (l : List Int) (j : Nat) (h : t ≤ p + j) : stored F t p l (j + 1) = fun k => if k = p + j then some (rd l j) else stored F t p l j k := by
  funext k
  unfold stored
  by_cases e : k = p + j
  · subst e
    rw [if_pos (by omega), if_pos rfl, show p + (j : Int) - p = (j : Int) from by omega]
  · rw [if_neg e]
    by_cases c : t ≤ k ∧ p ≤ k ∧ k < p + j
    · rw [if_pos c, if_pos (by omega)]
    · rw [if_neg c, if_neg (by omega)]
theorem stored_skip (F : Fn) (t p : Int) (l : List Int) (j : Nat) (h : p + j < t) : stored F t p l (j + 1) = stored F t p l j := by
  funext k
  unfold stored
  by_cases c : t ≤ k ∧ p ≤ k ∧ k < p + j
  · rw [if_pos c, if_pos (by omega)]
  · rw [if_neg c, if_neg (by omega)]
theorem FB.stored {F : Fn} (h : FB F) (t p : Int) {l : List Int} (hl : Bytes l) (j : Nat) (hj : j ≤ l.length) : FB (stored F t p l j) := by
  intro k c e
  unfold Stm.stored at e
  by_cases q : t ≤ k ∧ p ≤ k ∧ k < p + j
  · rw [if_pos q] at e
    injection e with e
    have := bytes_rd hl (k - p).toNat (by omega)
    rw [Int.toNat_of_nonneg (by omega)] at this
    omega
  · rw [if_neg q] at e
    exact h k c e
open Classical in
/-- What Put answers. -/
noncomputable def putE (F : Fn) (t p : Int) (l : List Int) : Int :=
  if p < 0 ∨ p > 1073741824 then 1 else if 0 < l.length ∧ p + l.length - t > 4096 then 4 else if fits F p l l.length then 0 else 12
/-- What is held behind it. -/
noncomputable def putF (F : Fn) (t p : Int) (l : List Int) : Fn := if putE F t p l = 0 then stored F t p l l.length else F
theorem putF_FB {F : Fn} (h : FB F) (t p : Int) {l : List Int} (hl : Bytes l) : FB (putF F t p l) := by
  unfold putF
  split
  · exact h.stored t p hl _ (Nat.le_refl _)
  · exact h

/-- The bytes from a place on that are held without a gap, at most so many. -/
def front (F : Fn) (t : Int) : Nat → List Int
  | 0 => []
  | n + 1 => match F t with | none => [] | some c => c :: front F (t + 1) n
theorem front_none (F : Fn) (t : Int) (n : Nat) (h : F t = none) : front F t n = [] := by
  cases n with
  | zero => rfl
  | succ n => simp [front, h]
theorem front_some (F : Fn) (t : Int) (n : Nat) (c : Int) (h : F t = some c) : front F t (n + 1) = c :: front F (t + 1) n := by simp [front, h]
theorem front_le (F : Fn) : ∀ (n : Nat) (t : Int), (front F t n).length ≤ n := by
  intro n
  induction n with
  | zero => intro t; simp [front]
  | succ n ih =>
    intro t
    unfold front
    split
    · simp
    · have := ih (t + 1)
      simp only [List.length_cons]
      omega
theorem front_bytes {F : Fn} (h : FB F) : ∀ (n : Nat) (t : Int), Bytes (front F t n) := by
  intro n
  induction n with
  | zero => intro t x hx; simp [front] at hx
  | succ n ih =>
    intro t x hx
    unfold front at hx
    split at hx
    · simp at hx
    · rename_i c hc
      rcases List.mem_cons.1 hx with rfl | hx
      · exact h _ _ hc
      · exact ih _ x hx
/-- How long the message is that four bytes begin. -/
def mlen (b : List Int) : Int := 4 + (65536 * rd b 1 + 256 * rd b 2 + rd b 3)
/-- What Next answers: the message, the error. -/
def nextR (F : Fn) (t : Int) : List Int × Int :=
  if (front F t 4).length < 4 then ([], 2) else
  if mlen (front F t 4) > 2004 then ([], 4) else
  if (front F t (mlen (front F t 4)).toNat).length < (mlen (front F t 4)).toNat then ([], 2) else (front F t (mlen (front F t 4)).toNat, 0)
def nextF (F : Fn) (t : Int) : Fn := fun k => if t ≤ k ∧ k < t + (nextR F t).1.length then none else F k
def cut (F : Fn) (t : Int) (j : Nat) : Fn := fun k => if t ≤ k ∧ k < t + j then none else F k
theorem cut_zero (F : Fn) (t : Int) : cut F t 0 = F := by
  funext k
  unfold cut
  rw [if_neg (by omega)]
theorem cut_succ (F : Fn) (t : Int) (j : Nat) : cut F t (j + 1) = fun k => if k = t + j then none else cut F t j k := by
  funext k
  unfold cut
  by_cases e : k = t + j
  · rw [if_pos e, if_pos (by omega)]
  · rw [if_neg e]
    by_cases c : t ≤ k ∧ k < t + j
    · rw [if_pos c, if_pos (by omega)]
    · rw [if_neg c, if_neg (by omega)]

theorem ofInt_i64 (a : Nat) (ha : a < 18446744073709551616) : (BitVec.ofInt 64 (a : Int)).toNat = a := by
  rw [BitVec.ofInt_natCast, BitVec.toNat_ofNat]; exact Nat.mod_eq_of_lt (by omega)
theorem i64_or_nat (a b : Nat) (ha : a < 2 ^ 62) (hb : b < 2 ^ 62) : bits .or .i64 (a : Int) (b : Int) = ((a ||| b : Nat) : Int) := by
  have hx : a ||| b < 2 ^ 62 := Nat.or_lt_two_pow ha hb
  show IntKind.i64.wrap ((BitVec.ofInt 64 (a : Int) ||| BitVec.ofInt 64 (b : Int)).toNat : Int) = _
  rw [BitVec.toNat_or, ofInt_i64 a (by omega), ofInt_i64 b (by omega)]
  simp [IntKind.wrap, IntKind.bits, IntKind.signed]
  omega
theorem i64_or_add (x y : Int) (i : Nat) (hx : 0 ≤ x) (hx' : x < 2 ^ 62) (hy : 0 ≤ y) (hy' : y < 2 ^ 62) (h1 : x.toNat % 2 ^ i = 0) (h2 : y.toNat < 2 ^ i) : bits .or .i64 x y = x + y := by
  obtain ⟨A, rfl⟩ := Int.eq_ofNat_of_zero_le hx
  obtain ⟨B, rfl⟩ := Int.eq_ofNat_of_zero_le hy
  rw [i64_or_nat A B (by omega) (by omega), nat_join i A B (by simpa using h1) (by simpa using h2)]
  omega
end Go.Proofs.Ytbcleckapamicaa.Stm
