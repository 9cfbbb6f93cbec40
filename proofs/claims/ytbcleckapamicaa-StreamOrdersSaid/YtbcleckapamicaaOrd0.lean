/- Plain: messages in order, whatever pieces come. -/
import Derived.Test.YtbcleckapamicaaMsg0
namespace Go.Proofs.Ytbcleckapamicaa.Ord
open Go Go.RowKit Go.Proofs.YtbcleckapamicaaW.PrintWords
open Go.Proofs.Ytbcleckapamicaa.Stm (Bytes bytes_rd front front_none front_some mlen nextR cut putE putF fits)
open Go.Proofs.Ytbcleckapamicaa.Msg (msg msg_len)
set_option linter.unusedVariables false
set_option linter.unusedSimpArgs false

/-- All that is held are bytes of the whole, from t on. -/
def agree (F : Stm.Fn) (t : Nat) (all : List Int) : Prop := ∀ x c, F x = some c → (t : Int) ≤ x ∧ x < all.length ∧ c = rd all x
/-- From t on, up te h, all is there. -/
def there (F : Stm.Fn) (t : Nat) (h : Int) : Prop := ∀ x : Int, (t : Int) ≤ x → x < h → F x ≠ none
theorem rd_get (l : List Int) (i : Nat) (h : i < l.length) : rd l i = l[i] := by simp [rd, List.getD_eq_getElem?_getD, List.getElem?_eq_getElem h]
theorem front_pre {F : Stm.Fn} {t0 : Nat} {all : List Int} (hA : agree F t0 all) : ∀ (n t : Nat), front F t n = (all.drop t).take (front F t n).length := by
  intro n
  induction n with
  | zero => intro t; simp [front]
  | succ n ih =>
    intro t
    cases hF : F t with
    | none => rw [front_none F t _ hF]; simp
    | some c =>
      obtain ⟨_, h2, h3⟩ := hA _ _ hF
      rw [front_some F t n c hF, List.length_cons, List.drop_eq_getElem_cons (show t < all.length by omega), List.take_succ_cons, h3, rd_get all t (by omega)]
      have h4 := ih (t + 1)
      rw [show ((t + 1 : Nat) : Int) = (t : Int) + 1 by omega] at h4
      rw [← h4]
theorem front_full {F : Stm.Fn} : ∀ (n : Nat) (t : Int), (∀ x, t ≤ x → x < t + n → F x ≠ none) → (front F t n).length = n := by
  intro n
  induction n with
  | zero => intro t _; rfl
  | succ n ih =>
    intro t h
    cases hF : F t with
    | none => exact absurd hF (h t (by omega) (by omega))
    | some c =>
      rw [front_some F t n c hF, List.length_cons, ih (t + 1) (fun x h1 h2 => h x (by omega) (by omega))]
theorem take4 (k : Nat) (b r : List Int) : (msg k b ++ r).take 4 = [(k : Int), 0, 0, (b.length : Int)] := by simp [msg]
theorem mlen4 (k : Nat) (b : List Int) : mlen [(k : Int), 0, 0, (b.length : Int)] = 4 + b.length := by
  show 4 + (65536 * (0 : Int) + 256 * 0 + (b.length : Int)) = _
  omega
/-- What Next tells, if it tells one, is the message that stands there. -/
theorem next_is {F : Stm.Fn} {t : Nat} {all : List Int} (hA : agree F t all) {k : Nat} {b r : List Int} (hb : b.length ≤ 100) (hd : all.drop t = msg k b ++ r) (h0 : (nextR F t).2 = 0) : (nextR F t).1 = msg k b := by
  unfold nextR at h0 ⊢
  by_cases h4 : (front F t 4).length < 4
  · rw [if_pos h4] at h0; exact absurd h0 (by decide)
  · have hle := Stm.front_le F 4 t
    have e4 : front F t 4 = [(k : Int), 0, 0, (b.length : Int)] := by
      rw [front_pre hA 4 t, hd, show (front F t 4).length = 4 by omega, take4]
    rw [if_neg h4] at h0 ⊢
    rw [e4, mlen4] at h0 ⊢
    rw [if_neg (by omega)] at h0 ⊢
    rw [show ((4 : Int) + (b.length : Int)).toNat = b.length + 4 by omega] at h0 ⊢
    by_cases h6 : (front F t (b.length + 4)).length < b.length + 4
    · rw [if_pos h6] at h0; exact absurd h0 (by decide)
    · have hle6 := Stm.front_le F (b.length + 4) t
      rw [if_neg h6]
      simp only []
      rw [front_pre hA (b.length + 4) t, hd, show (front F t (b.length + 4)).length = (msg k b).length by rw [msg_len]; omega, List.take_left]
/-- Where all is there, it tells one. -/
theorem next_full {F : Stm.Fn} {t : Nat} {all : List Int} (hA : agree F t all) {k : Nat} {b r : List Int} (hb : b.length ≤ 100) (hd : all.drop t = msg k b ++ r) (hT : there F t all.length) : (nextR F t).2 = 0 := by
  have hlen : all.length = t + (b.length + 4) + r.length := by
    have h1 := congrArg List.length hd
    have h2 : t ≤ all.length := by
      rcases Nat.lt_or_ge all.length t with h | h
      · rw [List.drop_of_length_le (by omega)] at hd
        have := congrArg List.length hd
        simp [msg] at this
      · exact h
    rw [List.length_drop, List.length_append, msg_len] at h1
    omega
  have f4 : (front F t 4).length = 4 := front_full 4 t (fun x h1 h2 => hT x h1 (by omega))
  have e4 : front F t 4 = [(k : Int), 0, 0, (b.length : Int)] := by
    rw [front_pre hA 4 t, hd, f4, take4]
  unfold nextR
  rw [if_neg (by omega), e4, mlen4, if_neg (by omega), show ((4 : Int) + (b.length : Int)).toNat = b.length + 4 by omega]
  have f6 : (front F t (b.length + 4)).length = b.length + 4 := front_full (b.length + 4) t (fun x h1 h2 => hT x h1 (by omega))
  rw [if_neg (by omega)]
theorem next_end {F : Stm.Fn} {t : Nat} {all : List Int} (hA : agree F t all) (ht : all.length ≤ t) : (nextR F t).2 = 2 := by
  have h : F t = none := by
    cases hF : F t with
    | none => rfl
    | some c => have := hA _ _ hF; omega
  unfold nextR
  rw [front_none F t 4 h, if_pos (by simp)]
theorem agree_cut {F : Stm.Fn} {t : Nat} {all : List Int} (hA : agree F t all) (N : Nat) : agree (cut F t N) (t + N) all := by
  intro x c h
  unfold Stm.cut at h
  by_cases q : (t : Int) ≤ x ∧ x < t + N
  · rw [if_pos q] at h; cases h
  · rw [if_neg q] at h
    have := hA x c h
    exact ⟨by omega, this.2⟩
theorem there_cut {F : Stm.Fn} {t : Nat} {h : Int} (hT : there F t h) (N : Nat) : there (cut F t N) (t + N) h := by
  intro x h1 h2
  unfold Stm.cut
  rw [if_neg (by omega)]
  exact hT x (by omega) h2
/-- A piece of the whole. -/
def piece (all : List Int) (p q : Nat) : List Int := (all.take q).drop p
theorem piece_len (all : List Int) (p q : Nat) (hq : q ≤ all.length) : (piece all p q).length = q - p := by simp [piece]; omega
theorem piece_rd (all : List Int) (p q : Nat) (hq : q ≤ all.length) (i : Nat) (hi : i < q - p) : rd (piece all p q) i = rd all ((p + i : Nat) : Int) := by
  rw [rd_get _ i (by rw [piece_len _ _ _ hq]; exact hi), rd_get all (p + i) (by omega)]
  simp [piece]
theorem put_ok {F : Stm.Fn} {t : Nat} {all : List Int} (hA : agree F t all) (hL : all.length ≤ 1000) {p q : Nat} (hq : q ≤ all.length) (hp : p ≤ q) : putE F t p (piece all p q) = 0 := by
  have hl := piece_len all p q hq
  refine Stm.putE_ok (by omega) (by omega) (by omega) (fun i hi c hc => ?_)
  have h := (hA _ _ hc).2.2
  rw [piece_rd all p q hq i (by omega), h, show ((p + i : Nat) : Int) = (p : Int) + i by omega]
theorem putF_at {F : Stm.Fn} {t : Nat} {all : List Int} (hA : agree F t all) (hL : all.length ≤ 1000) {p q : Nat} (hq : q ≤ all.length) (hp : p ≤ q) (x : Int) : putF F t p (piece all p q) x = if (t : Int) ≤ x ∧ (p : Int) ≤ x ∧ x < q then some (rd all x) else F x := by
  rw [Stm.putF_ok (put_ok hA hL hq hp)]
  unfold Stm.stored
  have hl := piece_len all p q hq
  by_cases c : (t : Int) ≤ x ∧ (p : Int) ≤ x ∧ x < q
  · rw [if_pos c, if_pos (by omega)]
    have h := piece_rd all p q hq (x - p).toNat (by omega)
    rw [show (((x - p).toNat : Nat) : Int) = x - p by omega] at h
    rw [h, show ((p + (x - p).toNat : Nat) : Int) = x by omega]
  · rw [if_neg c, if_neg (by omega)]
theorem agree_put {F : Stm.Fn} {t : Nat} {all : List Int} (hA : agree F t all) (hL : all.length ≤ 1000) {p q : Nat} (hq : q ≤ all.length) (hp : p ≤ q) : agree (putF F t p (piece all p q)) t all := by
  intro x c h
  rw [putF_at hA hL hq hp] at h
  by_cases k : (t : Int) ≤ x ∧ (p : Int) ≤ x ∧ x < q
  · rw [if_pos k] at h
    injection h with h
    exact ⟨k.1, by omega, h.symm⟩
  · rw [if_neg k] at h
    exact hA x c h
theorem there_put {F : Stm.Fn} {t : Nat} {all : List Int} (hA : agree F t all) (hL : all.length ≤ 1000) {p q : Nat} (hq : q ≤ all.length) (hp : p ≤ q) {h : Int} (hT : there F t h) : there (putF F t p (piece all p q)) t h := by
  intro x h1 h2
  rw [putF_at hA hL hq hp]
  split
  · simp
  · exact hT x h1 h2
/-- The piece itself is there, too. -/
theorem there_more {F : Stm.Fn} {t : Nat} {all : List Int} (hA : agree F t all) (hL : all.length ≤ 1000) {p q : Nat} (hq : q ≤ all.length) (hp : p ≤ q) (hT : there F t p) : there (putF F t p (piece all p q)) t q := by
  intro x h1 h2
  rw [putF_at hA hL hq hp]
  by_cases k : (p : Int) ≤ x
  · rw [if_pos ⟨h1, k, h2⟩]; simp
  · rw [if_neg (by omega)]
    exact hT x h1 (by omega)

/-- Where the pieces up te number q end. -/
def cov (te : List Int) (q : Nat) : Int := if q = 0 then 0 else rd te ((q - 1 : Nat) : Int)
/-- The pieces: one behind the other, from the beginning on. -/
def Pcs (L : Nat) (fr te : List Int) : Prop := fr.length = te.length ∧ ∀ q : Nat, q < te.length → rd fr (q : Int) = cov te q ∧ cov te q < rd te (q : Int) ∧ rd te (q : Int) ≤ L
theorem rd_left (l : List Int) (x : Int) (i : Nat) (h : i < l.length) : rd (l ++ [x]) (i : Int) = rd l (i : Int) := by
  rw [rd_get _ i (by simp; omega), rd_get l i h, List.getElem_append_left h]
theorem rd_last (l : List Int) (x : Int) : rd (l ++ [x]) (l.length : Int) = x := by
  rw [rd_get _ l.length (by simp)]
  simp
theorem cov_left (te : List Int) (e : Int) (q : Nat) (h : q ≤ te.length) : cov (te ++ [e]) q = cov te q := by
  unfold cov
  by_cases h0 : q = 0
  · rw [if_pos h0, if_pos h0]
  · rw [if_neg h0, if_neg h0, rd_left te e (q - 1) (by omega)]
theorem cov_last (te : List Int) (e : Int) : cov (te ++ [e]) (te ++ [e]).length = e := by
  unfold cov
  rw [if_neg (by simp), show (te ++ [e]).length - 1 = te.length by simp]
  exact rd_last te e
theorem Pcs.nil (L : Nat) : Pcs L [] [] := ⟨rfl, fun q h => by simp at h⟩
theorem Pcs.snoc {L : Nat} {fr te : List Int} (h : Pcs L fr te) {e : Int} (h1 : cov te te.length < e) (h2 : e ≤ L) : Pcs L (fr ++ [cov te te.length]) (te ++ [e]) := by
  obtain ⟨hl, hq⟩ := h
  refine ⟨by simp [hl], fun q hlt => ?_⟩
  rw [List.length_append, List.length_singleton] at hlt
  rw [cov_left te e q (by omega)]
  by_cases c : q = te.length
  · subst c
    rw [rd_last, ← hl, rd_last, hl]
    exact ⟨rfl, h1, h2⟩
  · rw [rd_left te e q (by omega), rd_left fr _ q (by omega)]
    exact hq q (by omega)
theorem cov_nonneg {L : Nat} {fr te : List Int} (h : Pcs L fr te) : ∀ q : Nat, q ≤ te.length → 0 ≤ cov te q ∧ cov te q ≤ L := by
  intro q
  induction q with
  | zero => intro _; unfold cov; rw [if_pos rfl]; omega
  | succ q ih =>
    intro hq
    have := ih (by omega)
    have h2 := h.2 q (by omega)
    unfold cov
    rw [if_neg (by omega), Nat.add_sub_cancel]
    omega
theorem cov_succ (te : List Int) (q : Nat) : cov te (q + 1) = rd te (q : Int) := by unfold cov; rw [if_neg (by omega), Nat.add_sub_cancel]

/-- The messages of bodies, in order. -/
def msgs (k : Nat) : List (List Int) → List (List Int)
  | [] => []
  | b :: bs => msg k b :: msgs (k + 1) bs
theorem msgs_length : ∀ (bs : List (List Int)) (k : Nat), (msgs k bs).length = bs.length := by
  intro bs
  induction bs with
  | nil => intro k; rfl
  | cons b bs ih => intro k; simp [msgs, ih]
theorem msgs_snoc : ∀ (bs : List (List Int)) (k : Nat) (b : List Int), msgs k (bs ++ [b]) = msgs k bs ++ [msg (k + bs.length) b] := by
  intro bs
  induction bs with
  | nil => intro k b; simp [msgs]
  | cons c bs ih => intro k b; simp [msgs, ih, Nat.add_assoc, Nat.add_comm, Nat.add_left_comm]
theorem msgs_get : ∀ (bs : List (List Int)) (k i : Nat) (h : i < bs.length), (msgs k bs)[i]? = some (msg (k + i) bs[i]) := by
  intro bs
  induction bs with
  | nil => intro k i h; simp at h
  | cons b bs ih =>
    intro k i h
    cases i with
    | zero => simp [msgs]
    | succ i =>
      simp only [msgs, List.getElem?_cons_succ, List.getElem_cons_succ]
      rw [ih (k + 1) i (by simpa using h), show k + 1 + i = k + (i + 1) by omega]
/-- Where message number k begins. -/
def off (ms : List (List Int)) (k : Nat) : Nat := (ms.take k).flatten.length
theorem off_zero (ms : List (List Int)) : off ms 0 = 0 := rfl
theorem off_all (ms : List (List Int)) : off ms ms.length = ms.flatten.length := by unfold off; rw [List.take_length]
theorem off_succ (ms : List (List Int)) (k : Nat) (m : List Int) (h : ms[k]? = some m) : off ms (k + 1) = off ms k + m.length := by
  have hk : k < ms.length := by
    rcases Nat.lt_or_ge k ms.length with q | q
    · exact q
    · rw [List.getElem?_eq_none q] at h; cases h
  rw [List.getElem?_eq_getElem hk] at h
  injection h with h
  unfold off
  rw [List.take_succ_eq_append_getElem hk, List.flatten_append, List.length_append, h]
  simp
theorem drop_off (ms : List (List Int)) (k : Nat) (m : List Int) (h : ms[k]? = some m) : ∃ r, ms.flatten.drop (off ms k) = m ++ r := by
  have hk : k < ms.length := by
    rcases Nat.lt_or_ge k ms.length with q | q
    · exact q
    · rw [List.getElem?_eq_none q] at h; cases h
  rw [List.getElem?_eq_getElem hk] at h
  injection h with h
  refine ⟨(ms.drop (k + 1)).flatten, ?_⟩
  unfold off
  conv => lhs; rw [← List.take_append_drop k ms, List.flatten_append]
  rw [List.take_append_drop, List.drop_left, List.drop_eq_getElem_cons hk, List.flatten_cons, h]
end Go.Proofs.Ytbcleckapamicaa.Ord
