/- SpanAcks: its function, walked by hand: at any numbers it answers true. -/
import Derived.Test.YtpihkmpcnkhnfaaSq3
namespace Go.Proofs.Ytpihkmpcnkhnfaa.QSk
open Go Go.RowKit Go.Lib Go.Proofs.YtpihkmpcnkhnfaaW.PrintWords Go.Proofs.Ytpihkmpcnkhnfaa.Sp
set_option linter.unusedVariables false
set_option linter.unusedSimpArgs false

/-- A set and its floor behind all of a list. -/
def stt (m : List Int) : List Spn × Int := m.foldl (fun p x => (addS p.1 p.2 x).2) ([], 0)
theorem stt_snoc (m : List Int) (x : Int) : stt (m ++ [x]) = (addS (stt m).1 (stt m).2 x).2 := by simp [stt]
theorem stt_facts : ∀ (n : Nat) (m : List Int), m.length = n → Gd (-1) (stt m).1 ∧ (stt m).1.length ≤ 32 := by
  intro n
  induction n with
  | zero =>
    intro m hm
    obtain rfl : m = [] := List.eq_nil_of_length_eq_zero hm
    exact ⟨trivial, Nat.zero_le _⟩
  | succ n ih =>
    intro m hm
    have hne : m ≠ [] := by intro e; subst e; simp at hm
    obtain ⟨m', x, rfl⟩ : ∃ m' x, m = m' ++ [x] := ⟨m.dropLast, m.getLast hne, (List.dropLast_concat_getLast hne).symm⟩
    have hl : m'.length = n := by simp at hm; exact hm
    obtain ⟨h1, h2⟩ := ih m' hl
    rw [stt_snoc]
    exact ⟨addS_gd h1, addS_len h1 h2⟩
theorem take_snoc (m : List Int) (i : Nat) (hi : i < m.length) : m.take (i + 1) = m.take i ++ [rd m i] := by
  rw [List.take_succ_eq_append_getElem hi]
  simp [rd, List.getD_eq_getElem?_getD, List.getElem?_eq_getElem hi]

set_option maxHeartbeats 4000000 in
set_option maxRecDepth 100000 in
theorem add_nil (W : World) (x : Int) : Calls Try.prog 7 #[.pointer none, .int .i64 x] W fun e w' => e = .returned (.bool false) ∧ w' = W := by
  go_enter Try.func7, Try.ntmps7
  go_wp2
  go_ret
  exact ⟨rfl, rfl⟩
set_option maxHeartbeats 4000000 in
theorem has_nil (W : World) (x : Int) : Calls Try.prog 14 #[.pointer none, .int .i64 x] W fun e w' => e = .returned (.bool false) ∧ w' = W := by
  go_enter Try.func14, Try.ntmps14
  go_wp2
  go_ret
  exact ⟨rfl, rfl⟩
set_option maxHeartbeats 4000000 in
theorem spans_nil (W : World) : Calls Try.prog 8 #[.pointer none] W fun e w' => e = .returned (.slice none 0 0) ∧ w' = W := by
  go_enter Try.func8, Try.ntmps8
  go_wp2
  go_ret
  exact ⟨rfl, rfl⟩
set_option maxHeartbeats 4000000 in
theorem floor_nil (W : World) : Calls Try.prog 13 #[.pointer none] W fun e w' => e = .returned (.int .i64 0) ∧ w' = W := by
  go_enter Try.func13, Try.ntmps13
  go_wp2
  go_ret
  exact ⟨rfl, rfl⟩

theorem fresh_some {W W1 : World} {A : Option Addr} {c : Nat} {l : List Spn} (h : Row W1 A c l) (hA : A = none ∨ ∃ b, A = some ⟨b, 0, none⟩ ∧ W.heap.size ≤ b) (hp : 0 < l.length) : ∃ b, A = some ⟨b, 0, none⟩ ∧ W.heap.size ≤ b := by
  rcases hA with rfl | h'
  · rcases h with ⟨_, _, rfl⟩ | ⟨b, off, e, _⟩
    · simp at hp
    · cases e
  · exact h'
theorem _root_.Go.Proofs.Ytpihkmpcnkhnfaa.Sp.Row.get0 {W : World} {b c : Nat} {l : List Spn} (h : Row W (some ⟨b, 0, none⟩) c l) (hp : 0 < l.length) : ∃ z, W.cell? ⟨b, 0, none⟩ = some (.int .i64 z) := by
  obtain ⟨b', off, e, h1, _⟩ := h.get 0 hp
  injection e with e; injection e with e1 e2; subst e1 e2
  exact ⟨_, by simpa using h1⟩
theorem _root_.Go.Proofs.Ytpihkmpcnkhnfaa.Sp.Row.get0' {W : World} {b c : Nat} {l : List Spn} (h : Row W (some ⟨b, 0, none⟩) c l) (ha : Ackd l) (hp : 0 < l.length) : ∃ z, W.cell? ⟨b, 0, none⟩ = some (.int .i64 z) ∧ 0 ≤ z := by
  obtain ⟨b', off, e, h1, _⟩ := h.get 0 hp
  injection e with e; injection e with e1 e2; subst e1 e2
  exact ⟨_, by simpa using h1, (ha 0 hp).1⟩
theorem _root_.Go.Proofs.Ytpihkmpcnkhnfaa.Sp.Row.fz0 {W : World} {b c : Nat} {l : List Spn} (h : Row W (some ⟨b, 0, none⟩) c l) : W.frozen? ⟨b, 0, none⟩ = false := by
  rcases h with ⟨e, _⟩ | ⟨b', off, e, h⟩
  · cases e
  · injection e with e; injection e with e1 e2; subst e1 e2
    exact h.fz 0

/-! ### shibbolethlaw11_SpanAcks: function 6 -/
def shibbolethlaw11_SpanAcks.f (l0 : List Int) : Option Bool := some true
set_option maxHeartbeats 4000000 in
set_option maxRecDepth 100000 in
theorem shibbolethlaw11_SpanAcks.calls (A0 : Option Addr) (c0 : Nat) (l0 : List Int) (r : Bool) (w : World) (hr0 : Kd.C (Kd.int .i64) w A0 l0.length l0) (hc0 : l0.length ≤ c0) (h : shibbolethlaw11_SpanAcks.f l0 = some r) :
    Calls Try.prog 6 #[.slice A0 l0.length c0] w fun e w' => e = .returned (.bool r) ∧ Below w.heap.size w w' := by
  obtain rfl : r = true := (Option.some.inj h).symm
  clear h
  have HC := Aside0.mk hr0
  obtain ⟨n, hn⟩ : ∃ n, l0.length = n := ⟨_, rfl⟩
  have HN := Aside0.mk hn
  rw [hn]
  clear hr0 hc0 hn
  by_cases b1 : 200 < n
  · go_enter Try.func6, Try.ntmps6
    go_wp2
    go_ret
    exact ⟨rfl, Below.refl _ _⟩
  have hn200 : n ≤ 200 := by omega
  clear b1
  have T0 := Aside0.mk (Sp.Own.new w)
  go_enter Try.func6, Try.ntmps6
  go_wp2
  go_loopg [4] n (fun gg v4 wr => ∃ i : Nat, v4 = .int .i64 (i : Int) ∧ i ≤ n ∧ n - i ≤ gg ∧ Aside0 (Sp.Own w wr (stt (l0.take i)).2 (stt (l0.take i)).1 w.heap.size))
  case atStart => exact ⟨0, rfl, by omega, by omega, T0⟩
  case round =>
    obtain ⟨i, rfl, hi, hg, T⟩ := hrel
    clear T0
    by_cases hlt : i < n
    · have h1 := stt_facts i (l0.take i) (by rw [List.length_take, HN.out]; omega)
      have h2 := stt_facts (i + 1) (l0.take (i + 1)) (by rw [List.length_take, HN.out]; omega)
      have C1 := Aside0.mk (T.out.add (x := rd l0 (i : Int)) (gd_asc h1.1) (gd_bd h1.1) (by omega) (Prod.ext rfl (Prod.ext rfl rfl) : addS (stt (l0.take i)).1 (stt (l0.take i)).2 (rd l0 (i : Int)) = ((addS (stt (l0.take i)).1 (stt (l0.take i)).2 (rd l0 (i : Int))).1, (addS (stt (l0.take i)).1 (stt (l0.take i)).2 (rd l0 (i : Int))).2.1, (addS (stt (l0.take i)).1 (stt (l0.take i)).2 (rd l0 (i : Int))).2.2)))
      have ES := Aside0.mk (show stt (l0.take (i + 1)) = (addS (stt (l0.take i)).1 (stt (l0.take i)).2 (rd l0 (i : Int))).2 by rw [take_snoc l0 i (by rw [HN.out]; exact hlt), stt_snoc])
      obtain ⟨l1, f1, hl1⟩ : ∃ l1 f1, stt (l0.take (i + 1)) = (l1, f1) := ⟨_, _, rfl⟩
      have HL1 := Aside0.mk hl1
      rw [hl1] at h2
      obtain ⟨G1, L1⟩ := h2
      have G1 : Gd (-1) l1 := G1
      have L1 : l1.length ≤ 32 := L1
      obtain ⟨n1, hn1⟩ : ∃ n1, l1.length = n1 := ⟨_, rfl⟩
      have HN1 := Aside0.mk hn1
      have HS := Aside0.mk (fun (w1 : World) (T1 : Sp.Own w w1 f1 l1 w.heap.size) => T1.spans0 (by omega))
      have HR := Aside0.mk (fun (w1 : World) A c (h : Row w1 A c l1.reverse) (h0 : 0 < n1) => right_calls h (gd_ackd G1) (by rw [List.length_reverse]; omega) (by rw [List.length_reverse]; exact L1))
      simp only [List.length_reverse] at HR
      rw [hn1] at HR HS
      have GA := Aside0.mk (gd_ackd G1)
      obtain ⟨ad, eA, hc⟩ := Kd.at_int (Kd.C_below HC.out T.out.bl) (i : Int) (by omega) (by have := HN.out; omega)
      replace hc : wr.cell? (ad.add i) = some (.int .i64 (rd l0 (i : Int))) := hc
      subst eA
      clear h1 G1 hl1 hn1
      by_cases hz : n1 = 0
      · subst hz
        go_wp2_with (first
          | (go_at_call 7; refine C1.out.mono ?_; rintro e1 w1 ⟨rfl, hT⟩; rw [← ES.out, HL1.out] at hT; have T1 := Aside0.mk hT; clear hT C1)
          | (go_at_call 8; refine (HS.out _ T1.out).mono ?_; rintro e2 w2 ⟨A2, c2, rfl, hR, hA, hb⟩; have T2 := Aside0.mk (T1.out.below hb); clear hR hA hb T1))
        go_roundg (n - (i + 1))
        case measure => omega
        case rel => exact ⟨i + 1, by simp, by omega, by omega, by rw [HL1.out]; exact T2⟩
      · have hpos : 0 < n1 := by omega
        have d1 : decide (0 < n1) = true := decide_eq_true hpos
        have d2 : decide (0 < (n1 : Int)) = true := decide_eq_true (by omega)
        go_wp2_with (first
          | (go_at_call 7; refine C1.out.mono ?_; rintro e1 w1 ⟨rfl, hT⟩; rw [← ES.out, HL1.out] at hT; have T1 := Aside0.mk hT; clear hT C1)
          | (go_at_call 8; refine (HS.out _ T1.out).mono ?_; rintro e2 w2 ⟨A2, c2, rfl, hR, hA, hb⟩; obtain ⟨b2, rfl, hB⟩ := fresh_some hR hA (by rw [List.length_reverse, HN1.out]; exact hpos); have R2 := Aside0.mk hR; have HB2 := Aside0.mk hB; have B2 := Aside0.mk hb; clear hR hA hb hB)
          | (go_at_call 16; refine (HR.out _ _ _ R2.out hpos).mono ?_; rintro e3 w3 ⟨rfl, hb⟩; have B3 := Aside0.mk (B2.out.trans (hb.mono B2.out.size)); have R3 := Aside0.mk (R2.out.move (fun k e => hb.block k (R2.out.lt k e))); obtain ⟨z0, hz0⟩ := R3.out.get0 (by rw [List.length_reverse, HN1.out]; exact hpos); have z1 := R3.out.fz0; clear hb)
          | (go_at_call 8; refine (HS.out _ (T1.out.setFresh B3.out HB2.out 0 (.int .i64 (-7)))).mono ?_; rintro e5 w5 ⟨A5, c5, rfl, hR, hA, hb⟩; obtain ⟨b5, rfl, hB⟩ := fresh_some hR hA (by rw [List.length_reverse, HN1.out]; exact hpos); obtain ⟨y0, hy0, hyn⟩ := hR.get0' GA.out (by rw [List.length_reverse, HN1.out]; exact hpos); have hy7 : (y0 == -7) = false := (by simp; omega); have T5 := Aside0.mk ((T1.out.setFresh B3.out HB2.out 0 (.int .i64 (-7))).below hb); clear hR hA hb hB))
        go_roundg (n - (i + 1))
        case measure => omega
        case rel => exact ⟨i + 1, by simp, by omega, by omega, by rw [HL1.out]; exact T5⟩
    · obtain rfl : i = n := by omega
      go_wp2_with (first
        | (go_at_call 7; refine (add_nil _ 1).mono ?_; rintro e1 w1 ⟨rfl, rfl⟩)
        | (go_at_call 14; refine (has_nil _ 1).mono ?_; rintro e1 w1 ⟨rfl, rfl⟩)
        | (go_at_call 8; refine (spans_nil _).mono ?_; rintro e1 w1 ⟨rfl, rfl⟩)
        | (go_at_call 13; refine (floor_nil _).mono ?_; rintro e1 w1 ⟨rfl, rfl⟩)
        | (go_at_call 9; refine (awake_calls _).mono ?_; rintro e7 w7 ⟨rfl, hb⟩; have B7 := Aside0.mk (T.out.bl.trans (hb.mono T.out.bl.size)); clear hb))
      go_ret
      exact ⟨rfl, B7.out⟩
end Go.Proofs.Ytpihkmpcnkhnfaa.QSk
