/- The streams' messages, plainly: what bytes consist of. -/
import Derived.Test.YtbcleckapamicaaQSmx1
namespace Go.Proofs.Ytbcleckapamicaa.MsgP
open Go.RowKit Go.Proofs.Ytbcleckapamicaa.QSm Go.Proofs.YtbcleckapamicaaW.PrintWords Go.Proofs.YtbcleckapamicaaW.PrintLast
open Go.Proofs.Ytbcleckapamicaa.Stm (Bytes bytes_rd mlen)
open Go.Proofs.Ytbcleckapamicaa.Mes (parts mesF parts_nil parts_bad parts_step mlen_ge)
open Go.Proofs.Ytbcleckapamicaa.Sg
set_option linter.unusedVariables false
set_option linter.unusedSimpArgs false

theorem bytes_of {l : List Int} (h : ∀ x ∈ l, (Lit.int .u8 x).wf = true) : Bytes l := by
  intro x hx
  have hw := h x hx
  simp [Lit.wf, IntKind.min, IntKind.max, IntKind.signed, IntKind.bits] at hw
  omega
theorem same_go (l : List Int) (hl : l.length ≤ 1000000) : ∀ (d k i : Nat), l.length ≤ i + d → i ≤ l.length → d < k → shibbolethlaw13_same.l0 k l l i = some true := by
  intro d
  induction d with
  | zero =>
    intro k i h hi hk
    obtain ⟨k, rfl⟩ : ∃ m, k = m + 1 := ⟨k - 1, by omega⟩
    simp only [shibbolethlaw13_same.l0]
    rw [if_neg (by omega)]
  | succ d ih =>
    intro k i h hi hk
    obtain ⟨k, rfl⟩ : ∃ m, k = m + 1 := ⟨k - 1, by omega⟩
    simp only [shibbolethlaw13_same.l0]
    by_cases hc : i < l.length
    · rw [if_pos (by omega), if_pos (by omega), if_pos (by omega), if_pos trivial, show wrap64 ((i : Int) + 1) = ((i + 1 : Nat) : Int) by unfold wrap64; omega]
      exact ih k (i + 1) (by omega) (by omega) (by omega)
    · rw [if_neg (by omega)]
theorem same_self (l : List Int) (hl : l.length ≤ 1000000) (k : Nat) (hk : l.length < k) : shibbolethlaw13_same.f k l l = some true := by
  unfold shibbolethlaw13_same.f
  rw [if_pos rfl]
  exact same_go l hl l.length k 0 (by omega) (by omega) hk

def resP (acc : List (List Int)) : Option (List (List Int)) → List (List Int) × Bool
  | none => ([], false)
  | some ms => (acc ++ ms, true)
theorem w_small {x : Int} (h : -9223372036854775808 ≤ x) (h' : x ≤ 9223372036854775807) : wrap64 x = x := by unfold wrap64; omega
theorem val_n {l : List Int} (hB : Bytes l) (h : 4 ≤ l.length) : wrap64 (wrap64 (wrap64 (65536 * wrap64 (rd l 1)) + wrap64 (256 * wrap64 (rd l 2))) + wrap64 (rd l 3)) = mlen l - 4 := by
  have r1 : 0 ≤ rd l 1 ∧ rd l 1 ≤ 255 := bytes_rd hB 1 (by omega)
  have r2 : 0 ≤ rd l 2 ∧ rd l 2 ≤ 255 := bytes_rd hB 2 (by omega)
  have r3 : 0 ≤ rd l 3 ∧ rd l 3 ≤ 255 := bytes_rd hB 3 (by omega)
  have hm : mlen l = 4 + (65536 * rd l 1 + 256 * rd l 2 + rd l 3) := rfl
  rw [hm]
  generalize rd l 1 = a at *
  generalize rd l 2 = b at *
  generalize rd l 3 = c at *
  rw [w_small (x := a) (by omega) (by omega), w_small (x := b) (by omega) (by omega), w_small (x := c) (by omega) (by omega), w_small (x := 65536 * a) (by omega) (by omega), w_small (x := 256 * b) (by omega) (by omega),
    w_small (x := 65536 * a + 256 * b) (by omega) (by omega), w_small (by omega) (by omega)]
  omega
theorem mlen_le {l : List Int} (hB : Bytes l) (h : 4 ≤ l.length) : mlen l ≤ 20000000 := by
  have r1 : 0 ≤ rd l 1 ∧ rd l 1 ≤ 255 := bytes_rd hB 1 (by omega)
  have r2 : 0 ≤ rd l 2 ∧ rd l 2 ≤ 255 := bytes_rd hB 2 (by omega)
  have r3 : 0 ≤ rd l 3 ∧ rd l 3 ≤ 255 := bytes_rd hB 3 (by omega)
  have hm : mlen l = 4 + (65536 * rd l 1 + 256 * rd l 2 + rd l 3) := rfl
  omega
theorem ref_go : ∀ (f : Nat) (x : List Int) (acc : List (List Int)) (k : Nat), x.length < f → f ≤ k → Bytes x → acc.length + x.length ≤ 1000000 → shibbolethref13_Messages.l0 k x acc = some (resP acc (parts f x)) := by
  intro f
  induction f with
  | zero => intro x acc k h; omega
  | succ f ih =>
    intro x acc k h hk hB hl
    obtain ⟨k, rfl⟩ : ∃ m, k = m + 1 := ⟨k - 1, by omega⟩
    simp only [shibbolethref13_Messages.l0]
    by_cases he : x = []
    · subst he
      rw [if_neg (by simp), parts_nil]
      simp [resP]
    · have hpos : 0 < x.length := List.length_pos_iff.mpr he
      rw [if_pos (by omega)]
      by_cases h4 : x.length < 4
      · rw [if_pos (by omega), parts_bad (by omega) he (.inl h4)]
        rfl
      · rw [if_neg (by omega), if_pos (by omega), if_pos (by omega), if_pos (by omega), val_n hB (by omega)]
        have hge := mlen_ge hB (by omega)
        have hle := mlen_le hB (by omega)
        by_cases h5 : 2004 < mlen x
        · rw [if_pos (by omega), parts_bad (by omega) he (.inr (.inl h5))]
          rfl
        · rw [if_neg (by omega), w_small (x := (x.length : Int) - 4) (by omega) (by omega)]
          by_cases h6 : (x.length : Int) < mlen x
          · rw [if_pos (by omega), parts_bad (by omega) he (.inr (.inr h6))]
            rfl
          · rw [if_neg (by omega), w_small (x := mlen x - 4 + 4) (by omega) (by omega), show mlen x - 4 + 4 = mlen x by omega, if_pos (by omega), if_pos (by omega), if_pos (by omega)]
            rw [ih (x.drop (mlen x).toNat) (acc ++ [x.take (mlen x).toNat]) k (by simp; omega) (by omega) (fun y hy => hB y (List.mem_of_mem_drop hy)) (by simp; omega)]
            rw [parts_step he (by omega)]
            cases parts f (x.drop (mlen x).toNat) with
            | none => rfl
            | some ms => simp [resP]
theorem ref_messages (x : List Int) (k : Nat) (hk : x.length < k) (hB : Bytes x) (hl : x.length ≤ 100000) : shibbolethref13_Messages.f k x = some (mesP x) := by
  unfold shibbolethref13_Messages.f
  rw [ref_go (x.length + 1) x [] k (by omega) (by omega) hB (by simp; omega)]
  unfold mesP mesF
  cases parts (x.length + 1) x with
  | none => rfl
  | some ms => simp [resP]
theorem parts_mem : ∀ (f : Nat) (x : List Int) (ms : List (List Int)), parts f x = some ms → ms.length ≤ f ∧ ∀ m ∈ ms, m.length ≤ x.length := by
  intro f
  induction f with
  | zero => intro x ms h; simp [parts] at h; subst h; simp
  | succ f ih =>
    intro x ms h
    rw [parts] at h
    by_cases he : x = []
    · rw [if_pos he] at h
      obtain rfl := Option.some.inj h
      simp
    · rw [if_neg he] at h
      by_cases hb : x.length < 4 ∨ 2004 < mlen x ∨ (x.length : Int) < mlen x
      · rw [if_pos hb] at h; cases h
      · rw [if_neg hb] at h
        obtain ⟨ms', h1, rfl⟩ := Option.map_eq_some_iff.1 h
        obtain ⟨h2, h3⟩ := ih _ _ h1
        refine ⟨by simp; omega, fun m hm => ?_⟩
        rcases List.mem_cons.1 hm with rfl | hm
        · simp; omega
        · have := h3 m hm
          simp at this
          omega
theorem mesP_mem (x : List Int) : (mesP x).1.length ≤ x.length + 1 ∧ ∀ m ∈ (mesP x).1, m.length ≤ x.length := by
  unfold mesP
  cases h : mesF x with
  | none => simp
  | some ms => exact parts_mem _ _ _ h
theorem parts_fuel : ∀ (f g : Nat) (x : List Int), x.length < f → x.length < g → Bytes x → parts f x = parts g x := by
  intro f
  induction f with
  | zero => intro g x h; omega
  | succ f ih =>
    intro g x h hg hB
    obtain ⟨g, rfl⟩ : ∃ m, g = m + 1 := ⟨g - 1, by omega⟩
    by_cases he : x = []
    · subst he; rw [parts_nil, parts_nil]
    · by_cases hb : x.length < 4 ∨ 2004 < mlen x ∨ (x.length : Int) < mlen x
      · rw [parts_bad (by omega) he hb, parts_bad (by omega) he hb]
      · rw [parts_step he hb, parts_step he hb]
        have := mlen_ge hB (by omega)
        rw [ih g (x.drop (mlen x).toNat) (by simp; omega) (by simp; omega) (fun y hy => hB y (List.mem_of_mem_drop hy))]
theorem rd_left (a b : List Int) (i : Nat) (h : i < a.length) : rd (a ++ b) i = rd a i := by
  simp [rd, List.getD_eq_getElem?_getD, List.getElem?_append_left h]
theorem parts_join : ∀ (f g h : Nat) (a b : List Int) (x y : List (List Int)), parts f a = some x → parts g b = some y → a.length < f → b.length < g → a.length + b.length < h → Bytes a → Bytes b → parts h (a ++ b) = some (x ++ y) := by
  intro f
  induction f with
  | zero => intro g h a b x y _ _ hf; omega
  | succ f ih =>
    intro g h a b x y hx hy hf hg hh hA hB
    by_cases he : a = []
    · subst he
      rw [parts_nil] at hx
      obtain rfl := Option.some.inj hx
      rw [List.nil_append, List.nil_append, parts_fuel h g b (by simp at hh; omega) hg hB, hy]
    · have hpos : 0 < a.length := List.length_pos_iff.mpr he
      by_cases hb : a.length < 4 ∨ 2004 < mlen a ∨ (a.length : Int) < mlen a
      · rw [parts_bad (by omega) he hb] at hx; cases hx
      · rw [parts_step he hb] at hx
        obtain ⟨x', h1, rfl⟩ := Option.map_eq_some_iff.1 hx
        have hge := mlen_ge hA (by omega)
        have hm : mlen (a ++ b) = mlen a := by
          have e1 := rd_left a b 1 (by omega)
          have e2 := rd_left a b 2 (by omega)
          have e3 := rd_left a b 3 (by omega)
          show 4 + (65536 * rd (a ++ b) ((1 : Nat) : Int) + 256 * rd (a ++ b) ((2 : Nat) : Int) + rd (a ++ b) ((3 : Nat) : Int)) = 4 + (65536 * rd a ((1 : Nat) : Int) + 256 * rd a ((2 : Nat) : Int) + rd a ((3 : Nat) : Int))
          rw [e1, e2, e3]
        obtain ⟨h, rfl⟩ : ∃ m, h = m + 1 := ⟨h - 1, by omega⟩
        rw [parts_step (by simp [he]) (by rw [hm]; simp; omega), hm, List.drop_append_of_le_length (by omega), List.take_append_of_le_length (by omega),
          ih g h (a.drop (mlen a).toNat) b x' y h1 hy (by simp; omega) hg (by simp; omega) (fun z hz => hA z (List.mem_of_mem_drop hz)) hB]
        rfl
theorem ref_message (a0 : Int) (l : List Int) (hl : l.length ≤ 100000) (ha : (Lit.int .i64 a0).wf = true) : shibbolethref13_Message.f a0 l = some (msgF a0 l) := by
  unfold shibbolethref13_Message.f msgF
  by_cases h1 : a0 < 0
  · rw [if_pos h1, if_pos (.inl h1)]
  · rw [if_neg h1]
    by_cases h2 : a0 > 255
    · rw [if_pos h2, if_pos (.inr (.inl h2))]
    · rw [if_neg h2]
      by_cases h3 : (l.length : Int) > 2000
      · rw [if_pos h3, if_pos (.inr (.inr (by omega)))]
      · rw [if_neg h3, if_neg (by omega)]
        simp only [Option.bind_some, List.length_cons, List.length_nil]
        rw [if_pos (by omega)]
        rw [w_small (x := (l.length : Int) / 65536) (by omega) (by omega), w_small (x := (l.length : Int) / 256) (by omega) (by omega), Int.tmod_eq_emod_of_nonneg (by omega)]
        have e1 : a0 % 256 = a0 := by omega
        have e2 : (l.length : Int) / 65536 % 256 = (l.length : Int) / 65536 := by omega
        have e3 : (l.length : Int) / 256 % 256 % 256 = (l.length : Int) / 256 := by omega
        rw [e1, e2, e3]
end Go.Proofs.Ytbcleckapamicaa.MsgP
