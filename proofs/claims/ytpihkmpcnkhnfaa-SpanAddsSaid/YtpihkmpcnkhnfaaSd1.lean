/- The document's set, walked: Has. -/
import Derived.Test.YtpihkmpcnkhnfaaSd0
import Derived.Test.YtpihkmpcnkhnfaaSq2
namespace Go.Proofs.Ytpihkmpcnkhnfaa.Sp
open Go Go.RowKit Go.Lib Go.Proofs.YtpihkmpcnkhnfaaW.PrintWords
open Go.Proofs.Ytpihkmpcnkhnfaa.Onl (Only)
set_option linter.unusedVariables false
set_option linter.unusedSimpArgs false

/-- The document's set: the struct's two cells, its row. -/
structure Dt (W : World) (db : Nat) (A : Option Addr) (c : Nat) (f : Int) (L : List Int) : Prop where
  hp : W.heap[db]? = some (.cells #[.slice A L.length c, .int .i64 f] 35 (0, 0))
  row : Kd.C (Kd.int .i64) W A L.length L
  le : L.length ≤ c
  ne : ∀ a, A = some a → a.block ≠ db ∧ a.block < W.heap.size
theorem Dt.lt {W : World} {db : Nat} {A : Option Addr} {c : Nat} {f : Int} {L : List Int} (h : Dt W db A c f L) : db < W.heap.size := (Array.getElem?_eq_some_iff.1 h.hp).1
theorem Dt.only {p : Nat → Prop} {W W' : World} {db : Nat} {A : Option Addr} {c : Nat} {f : Int} {L : List Int} (h : Dt W db A c f L) (ho : Only p W W') (hs : ¬ p db) (hr : ∀ a, A = some a → ¬ p a.block) : Dt W' db A c f L :=
  ⟨(ho.block db h.lt hs).trans h.hp, ho.reads h.row hr, h.le, fun a e => ⟨(h.ne a e).1, Nat.lt_of_lt_of_le (h.ne a e).2 ho.size⟩⟩
theorem Dt.below {W W' : World} {db : Nat} {A : Option Addr} {c : Nat} {f : Int} {L : List Int} (h : Dt W db A c f L) (hb : Below W.heap.size W W') : Dt W' db A c f L :=
  h.only (Only.of_below hb : Only (fun _ => False) W W') (fun q => q) (fun _ _ q => q)
theorem Dt.cells {W : World} {db : Nat} {A : Option Addr} {c : Nat} {f : Int} {L : List Int} (h : Dt W db A c f L) : W.cell? ⟨db, 0, none⟩ = some (.slice A L.length c) ∧ W.cell? ⟨db, 1, none⟩ = some (.int .i64 f) := by
  constructor <;> simp [World.cell?, h.hp]
theorem Dt.at_ {W : World} {db : Nat} {A : Option Addr} {c : Nat} {f : Int} {L : List Int} (h : Dt W db A c f L) (i : Nat) (hi : i < L.length) : ∃ ad, A = some ad ∧ W.cell? (ad.add i) = some (.int .i64 L[i]) := by
  obtain ⟨ad, e, hc⟩ := Kd.at_int h.row (i : Int) (by omega) (by omega)
  refine ⟨ad, e, ?_⟩
  have e2 : rd L (i : Int) = L[i] := by simp [rd, List.getD_eq_getElem?_getD, List.getElem?_eq_getElem hi]
  rw [← e2]; exact hc

set_option maxHeartbeats 4000000 in
set_option maxRecDepth 100000 in
theorem dhas_calls {W : World} {db : Nat} {A : Option Addr} {c : Nat} {f x : Int} {L : List Int} (hD : Dt W db A c f L) (hl : L.length ≤ 1000) :
    Calls Try.prog 15 #[.pointer (some ⟨db, 0, none⟩), .int .i64 x] W fun e w' => e = .returned (.bool (decide (x ∈ L))) ∧ w' = W := by
  have D := Aside0.mk hD
  have c0 := hD.cells.1
  obtain ⟨n, hn⟩ : ∃ n, L.length = n := ⟨_, rfl⟩
  have HN := Aside0.mk hn
  obtain ⟨r, hr⟩ : ∃ r, decide (x ∈ L) = r := ⟨_, rfl⟩
  have HR := Aside0.mk hr
  rw [hn] at c0 hl
  rw [hr]
  clear hD hn hr
  go_enter Try.func15, Try.ntmps15
  go_wp2
  go_loopg [5] n (fun gg v5 wr => ∃ i : Nat, v5 = .int .i64 (i : Int) ∧ i ≤ n ∧ n - i ≤ gg ∧ Aside0 (∀ j (h : j < L.length), j < i → L[j] ≠ x) ∧ wr = W)
  case atStart => exact ⟨0, rfl, by omega, by omega, ⟨fun j _ h => absurd h (Nat.not_lt_zero _)⟩, rfl⟩
  case round =>
    obtain ⟨i, rfl, hi, hg, I, rfl⟩ := hrel
    by_cases hlt : i < n
    · obtain ⟨ad, eA, hc⟩ := D.out.at_ i (by rw [HN.out]; exact hlt)
      obtain ⟨y, hy⟩ : ∃ y, L[i]'(by rw [HN.out]; exact hlt) = y := ⟨_, rfl⟩
      have HY := Aside0.mk hy
      rw [hy] at hc
      subst eA
      clear hy
      by_cases hxy : y = x
      · subst hxy
        have hrr : r = true := by
          rw [← HR.out, ← HY.out]
          exact decide_eq_true (List.getElem_mem _)
        subst hrr
        go_wp2
        go_ret
        exact ⟨rfl, rfl⟩
      · have q1 : (y == x) = false := by simp [hxy]
        have HXY := Aside0.mk hxy
        clear hxy
        go_wp2
        go_roundg (n - (i + 1))
        case measure => omega
        case rel => exact ⟨i + 1, by simp, by omega, by omega, ⟨fun j h hj => by
          rcases Nat.lt_or_ge j i with q | q
          · exact I.out j h q
          · obtain rfl : j = i := by omega
            rw [HY.out]; exact HXY.out⟩, rfl⟩
    · obtain rfl : i = n := by omega
      have hrr : r = false := by
        rw [← HR.out]
        refine decide_eq_false (fun q => ?_)
        obtain ⟨j, hj, e⟩ := List.mem_iff_getElem.1 q
        exact I.out j hj (by have := HN.out; omega) e
      subst hrr
      go_wp2
      go_ret
      exact ⟨rfl, rfl⟩
end Go.Proofs.Ytpihkmpcnkhnfaa.Sp
