/- A set as spans: where a number's span lies; is it in it? -/
import Derived.Test.YtpihkmpcnkhnfaaSp2
import Derived.Deep.LoopGhost
import Derived.Deep.QuietTactic
import Derived.BigQuiet
import Derived.Deep.RegionHeld3
namespace Go.Proofs.Ytpihkmpcnkhnfaa.Sp
open Go Go.RowKit Go.Lib Go.Proofs.YtpihkmpcnkhnfaaW.PrintWords
open Go.Proofs.Ytpihkmpcnkhnfaa.Onl (Only)
set_option linter.unusedVariables false
set_option linter.unusedSimpArgs false

/-- A set: the struct's two cells, its row. -/
structure St (W : World) (sb : Nat) (A : Option Addr) (c : Nat) (f : Int) (l : List Spn) : Prop where
  hp : W.heap[sb]? = some (.cells #[.slice A l.length c, .int .i64 f] 26 (0, 0))
  row : Row W A c l
  ne : ∀ a, A = some a → a.block ≠ sb
theorem Row.move {W W' : World} {A : Option Addr} {c : Nat} {l : List Spn} (h : Row W A c l) (e : ∀ k, rb A = some k → W'.heap[k]? = W.heap[k]?) : Row W' A c l := by
  rcases h with h | ⟨b, off, rfl, h⟩
  · exact .inl h
  · exact .inr ⟨b, off, rfl, h.move (e b rfl)⟩
theorem Row.lt {W : World} {A : Option Addr} {c : Nat} {l : List Spn} (h : Row W A c l) (k : Nat) (e : rb A = some k) : k < W.heap.size := by
  rcases h with ⟨rfl, _⟩ | ⟨b, off, rfl, h⟩
  · cases e
  · injection e with e; subst e; exact h.lt
theorem St.lt {W : World} {sb : Nat} {A : Option Addr} {c : Nat} {f : Int} {l : List Spn} (h : St W sb A c f l) : sb < W.heap.size := (Array.getElem?_eq_some_iff.1 h.hp).1
theorem St.only {p : Nat → Prop} {W W' : World} {sb : Nat} {A : Option Addr} {c : Nat} {f : Int} {l : List Spn} (h : St W sb A c f l) (ho : Only p W W') (hs : ¬ p sb) (hr : ∀ k, rb A = some k → ¬ p k) : St W' sb A c f l :=
  ⟨(ho.block sb h.lt hs).trans h.hp, h.row.move (fun k e => ho.block k (h.row.lt k e) (hr k e)), h.ne⟩
theorem St.drewN {W : World} {sb : Nat} {A : Option Addr} {c : Nat} {f : Int} {l : List Spn} (h : St W sb A c f l) (n : Nat) : St (W.drewN n) sb A c f l := ⟨h.hp, h.row.move (fun _ _ => rfl), h.ne⟩
theorem St.cells {W : World} {sb : Nat} {A : Option Addr} {c : Nat} {f : Int} {l : List Spn} (h : St W sb A c f l) : W.cell? ⟨sb, 0, none⟩ = some (.slice A l.length c) ∧ W.cell? ⟨sb, 1, none⟩ = some (.int .i64 f) := by
  constructor <;> simp [World.cell?, h.hp]
theorem St.frozen {W : World} {sb : Nat} {A : Option Addr} {c : Nat} {f : Int} {l : List Spn} (h : St W sb A c f l) (j : Nat) : W.frozen? ⟨sb, j, none⟩ = false := by simp [World.frozen?, h.hp]
/-- An element of the row. -/
theorem Row.get {W : World} {A : Option Addr} {c : Nat} {l : List Spn} (h : Row W A c l) (i : Nat) (hi : i < l.length) : ∃ b off, A = some ⟨b, off, none⟩ ∧ W.cell? ⟨b, off + i * 2, none⟩ = some (.int .i64 l[i].1) ∧ W.cell? ⟨b, off + i * 2 + 1, none⟩ = some (.int .i64 l[i].2) := by
  rcases h with ⟨_, _, rfl⟩ | ⟨b, off, rfl, h⟩
  · simp at hi
  · have := h.get i hi
    rw [Nat.mul_comm 2 i, ← Nat.add_assoc] at this
    exact ⟨b, off, rfl, this⟩

/-- Where a number's span lies, or would lie: the first that does not end below it. -/
def pl (l : List Spn) (x : Int) : Nat := l.findIdx (fun s => decide (x ≤ s.2))
/-- The spans' ends rise. -/
def Asc (l : List Spn) : Prop := l.Pairwise (fun s t => s.2 < t.2)
theorem pl_le (l : List Spn) (x : Int) : pl l x ≤ l.length := List.findIdx_le_length
theorem pl_eq {l : List Spn} {x : Int} {i : Nat} (hi : i ≤ l.length) (h1 : ∀ t (h : t < l.length), t < i → l[t].2 < x) (h2 : ∀ t (h : t < l.length), i ≤ t → x ≤ l[t].2) : pl l x = i := by
  unfold pl
  by_cases he : i = l.length
  · rw [he, List.findIdx_eq_length]
    intro s hs
    obtain ⟨t, ht, rfl⟩ := List.mem_iff_getElem.1 hs
    have := h1 t ht (by omega)
    simp; exact this
  · rw [List.findIdx_eq (by omega)]
    refine ⟨by simp; exact h2 i (by omega) (Nat.le_refl _), fun j hj => ?_⟩
    have := h1 j (by omega) hj
    simp; exact this

set_option maxHeartbeats 4000000 in
set_option maxRecDepth 100000 in
/-- The closure: does the i-th span not end below it? -/
theorem place1_calls {W : World} {sb b1 b2 : Nat} {A : Option Addr} {c : Nat} {f x : Int} {l : List Spn} (hS : St W sb A c f l) (h1 : W.cell? ⟨b1, 0, none⟩ = some (.pointer (some ⟨sb, 0, none⟩))) (h2 : W.cell? ⟨b2, 0, none⟩ = some (.int .i64 x)) (i : Nat) (hi : i < l.length) :
    Calls Try.prog 26 #[.int .i64 i, .pointer (some ⟨b1, 0, none⟩), .pointer (some ⟨b2, 0, none⟩)] W fun e w' => e = .returned (.bool (decide (x ≤ l[i].2))) ∧ ∃ q, w' = W.drewN q := by
  obtain ⟨b, off, rfl, g1, g2⟩ := hS.row.get i hi
  have c0 := hS.cells.1
  obtain ⟨y, hy⟩ : ∃ y, l[i].2 = y := ⟨_, rfl⟩
  rw [hy] at g2 ⊢
  obtain ⟨n, hn⟩ : ∃ n, l.length = n := ⟨_, rfl⟩
  rw [hn] at c0 hi
  clear hS g1 hy hn
  go_enter Try.func26, Try.ntmps26
  go_wp2
  go_quiet (fail)
  go_wp2
  go_ret
  exact ⟨rfl, _, rfl⟩

set_option maxHeartbeats 4000000 in
set_option maxRecDepth 100000 in
/-- sort.Search over a set's spans. -/
theorem search_calls {W : World} {sb b1 b2 : Nat} {A : Option Addr} {c : Nat} {f x : Int} {l : List Spn} (hS : St W sb A c f l) (h1 : W.cell? ⟨b1, 0, none⟩ = some (.pointer (some ⟨sb, 0, none⟩))) (h2 : W.cell? ⟨b2, 0, none⟩ = some (.int .i64 x)) (hA : Asc l) (hl : l.length ≤ 1000) :
    Calls Try.prog 25 #[.int .i64 l.length, .func (.func 26) #[] #[.pointer (some ⟨b1, 0, none⟩), .pointer (some ⟨b2, 0, none⟩)]] W fun e w' => e = .returned (.int .i64 (pl l x)) ∧ ∃ q, w' = W.drewN q := by
  have eg : ∀ args w, (callFunc 26 args).run Try.prog w = .ok (.enter 26 args) w := enters_of Try.func26 (by kernel_rfl) rfl
  have CC := Aside0.mk (fun (q i : Nat) (hi : i < l.length) => place1_calls (W := W.drewN q) (hS.drewN q) (by rw [World.cell?_drewN]; exact h1) (by rw [World.cell?_drewN]; exact h2) i hi)
  have HA := Aside0.mk hA
  obtain ⟨n, hn⟩ : ∃ n, l.length = n := ⟨_, rfl⟩
  have HN := Aside0.mk hn
  rw [hn] at hl ⊢
  obtain ⟨r, hr⟩ : ∃ r, pl l x = r := ⟨_, rfl⟩
  have HR := Aside0.mk hr
  rw [hr]
  clear hS h1 h2 hA hn hr
  go_enter Try.func25, Try.ntmps25
  go_wp2
  go_loopg [5, 6] n (fun kx s5 s6 wr => ∃ (lo hi q : Nat), s5 = .int .i64 lo ∧ s6 = .int .i64 hi ∧ lo ≤ hi ∧ hi ≤ n ∧ hi - lo ≤ kx ∧ wr = W.drewN q ∧
    Aside0 ((∀ t (h : t < l.length), t < lo → l[t].2 < x) ∧ (∀ t (h : t < l.length), hi ≤ t → x ≤ l[t].2)))
  case atStart => exact ⟨0, n, 0, rfl, rfl, Nat.zero_le _, Nat.le_refl _, by omega, rfl, ⟨fun t _ ht => absurd ht (Nat.not_lt_zero _), fun t h h1 => by have := HN.out; omega⟩⟩
  case round =>
    obtain ⟨lo, hi, q, rfl, rfl, hlh, hin, hg, rfl, I⟩ := hrel
    by_cases hlt : lo < hi
    · have hc := CC.out q ((lo + hi) / 2) (by have := HN.out; omega)
      have HML : (lo + hi) / 2 < l.length := by have := HN.out; omega
      rw [show (((lo + hi) / 2 : Nat) : Int) = ((lo : Int) + (hi : Int)) / 2 by omega] at hc
      have MM := Aside0.mk (show ∀ a b (ha : a < l.length) (hb : b < l.length), a ≤ b → l[a].2 ≤ l[b].2 from fun a b ha hb hab => by
        rcases Nat.lt_or_eq_of_le hab with h | rfl
        · exact Int.le_of_lt (List.pairwise_iff_getElem.1 HA.out a b ha hb h)
        · exact Int.le_refl _)
      by_cases hp : x ≤ l[(lo + hi) / 2].2
      · have HP := Aside0.mk hp
        rw [decide_eq_true hp] at hc
        clear hp
        have HM2 := Aside0.mk HML
        go_wp2_with (go_at_fn 26; refine hc.mono ?_; rintro e w' ⟨rfl, nq, rfl⟩)
        go_roundg ((lo + hi) / 2 - lo)
        case measure => omega
        case rel => exact ⟨lo, (lo + hi) / 2, q + nq, rfl, by rw [show ((lo : Int) + (hi : Int)) / 2 = (((lo + hi) / 2 : Nat) : Int) by omega], by omega, by omega, Nat.le_refl _, rfl, ⟨I.out.1, fun t h ht => Int.le_trans HP.out (MM.out _ t HM2.out h ht)⟩⟩
      · have HP := Aside0.mk (show l[(lo + hi) / 2].2 < x by omega)
        rw [decide_eq_false hp] at hc
        clear hp
        have HM2 := Aside0.mk HML
        go_wp2_with (go_at_fn 26; refine hc.mono ?_; rintro e w' ⟨rfl, nq, rfl⟩)
        go_roundg (hi - ((lo + hi) / 2 + 1))
        case measure => omega
        case rel => exact ⟨(lo + hi) / 2 + 1, hi, q + nq, by rw [show ((lo : Int) + (hi : Int)) / 2 + 1 = (((lo + hi) / 2 + 1 : Nat) : Int) by omega], rfl, by omega, hin, Nat.le_refl _, rfl, ⟨fun t h ht => Int.lt_of_le_of_lt (MM.out t _ h HM2.out (by omega)) HP.out, I.out.2⟩⟩
    · obtain rfl : hi = lo := by omega
      have e := pl_eq (by have := HN.out; omega) I.out.1 I.out.2
      rw [HR.out] at e
      subst e
      clear I CC
      go_wp2
      go_ret
      exact ⟨rfl, q, rfl⟩
end Go.Proofs.Ytpihkmpcnkhnfaa.Sp
