/- A set's spans are right as an ack's: frame.spanned, frame.Right. -/
import Derived.Test.YtpihkmpcnkhnfaaSr0
import Derived.Test.YtpihkmpcnkhnfaaSq2
namespace Go.Proofs.Ytpihkmpcnkhnfaa.Sp
open Go Go.RowKit Go.Lib Go.Proofs.YtpihkmpcnkhnfaaW.PrintWords
open Go.Proofs.Ytpihkmpcnkhnfaa.Onl (Only)
set_option linter.unusedVariables false
set_option linter.unusedSimpArgs false

theorem w64' {x : Int} (h : -4611686018427387904 ≤ x ∧ x ≤ 4611686018427387904) : IntKind.i64.wrap x = x := by rw [IntKind.wrap_i64]; omega
set_option maxHeartbeats 4000000 in
set_option maxRecDepth 100000 in
theorem spanned_calls {W : World} {A : Option Addr} {c : Nat} {l : List Spn} (h : Row W A c l) (ha : Ackd l) (h0 : 0 < l.length) (hl : l.length ≤ 32) :
    Calls Try.prog 24 #[.slice A l.length c] W fun e w' => e = .returned (.bool true) ∧ Below W.heap.size W w' := by
  have H := Aside0.mk h
  have HA := Aside0.mk ha
  obtain ⟨n, hn⟩ : ∃ n, l.length = n := ⟨_, rfl⟩
  have HN := Aside0.mk hn
  rw [hn] at h0 hl ⊢
  clear h ha hn
  have dl : decide ((n : Int) ≤ 32) = true := decide_eq_true (by omega)
  have dl' : decide (n ≤ 32) = true := decide_eq_true hl
  go_enter Try.func24, Try.ntmps24
  go_wp2
  go_loopg [7] n (fun gg v7 wr => ∃ i : Nat, v7 = .int .i64 (i : Int) ∧ i ≤ n ∧ n - i ≤ gg ∧ Aside0 (Below W.heap.size W wr))
  case atStart => exact ⟨0, rfl, by omega, by omega, ⟨Below.refl _ _⟩⟩
  case round =>
    obtain ⟨i, rfl, hi, hg, B⟩ := hrel
    by_cases hlt : i < n
    · have hil : i < l.length := by rw [HN.out]; exact hlt
      have R := Aside0.mk (H.out.move (fun k e => B.out.block k (H.out.lt k e)))
      obtain ⟨b, off, hA, x1, x2⟩ := R.out.get i hil
      obtain ⟨s1, s2, hs⟩ : ∃ s1 s2, l[i] = (s1, s2) := ⟨_, _, rfl⟩
      have K := HA.out i hil
      rw [hs] at x1 x2
      simp only [hs] at K
      subst hA
      go_wp2
      have y1 : (wr.alloc (.cells #[.int .i64 s1, .int .i64 s2] 30)).cell? ⟨wr.heap.size, 0, none⟩ = some (.int .i64 s1) := by rw [World.cell?_alloc_at _ _ _ _ rfl]; rfl
      have y2 : (wr.alloc (.cells #[.int .i64 s1, .int .i64 s2] 30)).cell? ⟨wr.heap.size, 1, none⟩ = some (.int .i64 s2) := by rw [World.cell?_alloc_at _ _ _ _ rfl]; rfl
      have B4 := Aside0.mk (show Below W.heap.size W (wr.alloc (.cells #[.int .i64 s1, .int .i64 s2] 30)) from B.out.alloc B.out.size _)
      generalize wr.alloc (.cells #[.int .i64 s1, .int .i64 s2] 30) = W4 at y1 y2 B4 ⊢
      obtain ⟨z, hz⟩ : ∃ z, siz s2 = z := ⟨_, rfl⟩
      have hzn : ¬ z = 0 := by rw [← hz]; exact siz_ne ⟨by omega, K.2.2.1⟩
      have hz0 : (z == 0) = false := by simp [hzn]
      have SZ := Aside0.mk (show ∀ k, Calls Try.prog 17 #[.int .i64 s2] (W4.drewN k) fun e w'' => e = .returned (.int .i64 z) ∧ ∃ m, w'' = W4.drewN m from fun k => (siz_calls (W4.drewN k) s2).mono (by rintro e w' ⟨rfl, rfl⟩; exact ⟨by rw [hz], k, rfl⟩))
      have k1 : decide (s1 < 0) = false := decide_eq_false (by omega)
      have k2 : decide (s2 < s1) = false := decide_eq_false (by omega)
      have K3 := Aside0.mk K
      clear hz hs K x1 x2
      by_cases hi0 : i = 0
      · have HI0 := Aside0.mk hi0
        have di : decide (0 < (i : Int)) = false := decide_eq_false (by omega)
        have di' : decide (0 < i) = false := decide_eq_false (by omega)
        clear hi0
        go_wp2
        go_quiet ((go_at_call 17; exact SZ.out _))
        go_wp2
        go_roundg (n - (i + 1))
        case measure => omega
        case rel => exact ⟨i + 1, by simp, by omega, by omega, ⟨pw_below_drewN B4.out _⟩⟩
      · have hpos : 0 < i := by omega
        have hi1 : i - 1 < l.length := by rw [HN.out]; omega
        have R4 := (H.out.move (fun k e => B4.out.block k (H.out.lt k e)))
        obtain ⟨b', off', hA, x1, _⟩ := R4.get (i - 1) hi1
        injection hA with hA; injection hA with q1 q2; subst q1 q2
        obtain ⟨p, hp⟩ : ∃ p, l[i-1].1 = p := ⟨_, rfl⟩
        rw [hp] at x1
        have K4 := K3.out.2.2.2 hpos
        rw [hp] at K4
        have K5 : p ≤ 4611686018427387903 := by rw [← hp]; have := HA.out (i - 1) hi1; omega
        have k3 : decide (p - 2 < s2) = false := decide_eq_false (by omega)
        have kw : IntKind.i64.wrap (p - 2) = p - 2 := w64' (by have := K3.out.1; have := K3.out.2.1; omega)
        have ki : IntKind.i64.wrap ((i : Int) - 1) = ((i - 1 : Nat) : Int) := (w64' (by omega)).trans (by omega)
        have di : decide (0 < (i : Int)) = true := decide_eq_true (by omega)
        have di' : decide (0 < i) = true := decide_eq_true hpos
        clear hp K4 K5 R4
        go_wp2

        go_quiet ((go_at_call 17; exact SZ.out _))
        go_wp2
        go_roundg (n - (i + 1))
        case measure => omega
        case rel => exact ⟨i + 1, by simp, by omega, by omega, ⟨pw_below_drewN B4.out _⟩⟩
    · obtain rfl : i = n := by omega
      go_wp2
      go_ret
      exact ⟨rfl, B.out⟩

set_option maxHeartbeats 4000000 in
set_option maxRecDepth 100000 in
theorem right_calls {W : World} {A : Option Addr} {c : Nat} {l : List Spn} (h : Row W A c l) (ha : Ackd l) (h0 : 0 < l.length) (hl : l.length ≤ 32) :
    Calls Try.prog 16 #[.agg #[.int .i64 2, .int .i64 0, .slice A l.length c, .int .i64 0, .slice none 0 0, .int .i64 0]] W fun e w' => e = .returned (.bool true) ∧ Below W.heap.size W w' := by
  have HS := Aside0.mk (fun (W1 : World) (hb : Below W.heap.size W W1) => spanned_calls (h.move (fun k e => hb.block k (h.lt k e))) ha h0 hl)
  obtain ⟨n, hn⟩ : ∃ n, l.length = n := ⟨_, rfl⟩
  rw [hn] at HS ⊢
  clear h ha h0 hl hn
  obtain ⟨W1, hW1⟩ : ∃ y, W.alloc (.cells #[.int .i64 2, .int .i64 0, .slice A n c, .int .i64 0, .slice none 0 0, .int .i64 0] 48) = y := ⟨_, rfl⟩
  have HB := below_alloc (Below.refl W.heap.size W) (.cells #[.int .i64 2, .int .i64 0, .slice A n c, .int .i64 0, .slice none 0 0, .int .i64 0] 48)
  have HC : ∀ w', Below W1.heap.size W1 w' → w'.heap[W.heap.size]? = some (.cells #[.int .i64 2, .int .i64 0, .slice A n c, .int .i64 0, .slice none 0 0, .int .i64 0] 48 (0, 0)) := fun w' hb => by
    rw [hb.block _ (by rw [← hW1, World.size_alloc]; omega), ← hW1]
    exact World.alloc_heap_new _ _
  rw [hW1] at HB
  have C0 := HC W1 (Below.refl _ _)
  have c0 : W1.cell? ⟨W.heap.size, 0, none⟩ = some (.int .i64 2) := (cell_of C0 0).trans rfl
  have c1 : W1.cell? ⟨W.heap.size, 1, none⟩ = some (.int .i64 0) := (cell_of C0 1).trans rfl
  have c2 : W1.cell? ⟨W.heap.size, 2, none⟩ = some (.slice A n c) := (cell_of C0 2).trans rfl
  have c5 : W1.cell? ⟨W.heap.size, 5, none⟩ = some (.int .i64 0) := (cell_of C0 5).trans rfl
  have HBB := Aside0.mk HB
  have HCC := Aside0.mk HC
  have HW1 := Aside0.mk hW1
  clear HB HC hW1 C0
  go_enter Try.func16, Try.ntmps16
  go_wp2_with (first
    | (go_at_call 22; refine (number0_calls _).mono ?_; rintro e1 w1 ⟨rfl, rfl⟩)
    | (go_at_call 17; refine (siz_calls _ 0).mono ?_; rintro e1 w1 ⟨rfl, rfl⟩)
    | (go_at_call 24; refine (HS.out _ (by rw [HW1.out]; exact HBB.out)).mono ?_; rintro e2 w2 ⟨rfl, hb⟩; rw [HW1.out] at hb; have C2 := HCC.out w2 hb; have d0 := (cell_of C2 0).trans rfl; have d1 := (cell_of C2 1).trans rfl; have d2 := (cell_of C2 2).trans rfl; have d3 := (cell_of C2 3).trans rfl; have d4 := (cell_of C2 4).trans rfl; have d5 := (cell_of C2 5).trans rfl; have B2 := Aside0.mk (HBB.out.trans (hb.mono HBB.out.size)); clear hb C2)
    | (go_at_call 23; refine (bare_calls _ A n c).mono ?_; rintro e3 w3 ⟨rfl, hb⟩; have B3 := Aside0.mk (B2.out.trans (hb.mono B2.out.size)); clear hb))
  go_ret
  exact ⟨rfl, B3.out⟩
end Go.Proofs.Ytpihkmpcnkhnfaa.Sp
