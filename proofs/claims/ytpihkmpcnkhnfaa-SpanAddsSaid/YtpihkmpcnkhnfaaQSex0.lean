/- SpanAdds: its function, walked by hand: at any numbers it answers true. -/
import Derived.Test.YtpihkmpcnkhnfaaSd4
namespace Go.Proofs.Ytpihkmpcnkhnfaa.QSe
open Go Go.RowKit Go.Lib Go.Proofs.YtpihkmpcnkhnfaaW.PrintWords Go.Proofs.Ytpihkmpcnkhnfaa.Sp
set_option linter.unusedVariables false
set_option linter.unusedSimpArgs false

/-- The document's set and its floor behind all of a list. -/
def dd (m : List Int) : List Int × Int := m.foldl (fun p x => (docAdd p.1 p.2 x).2) ([], 0)
theorem dd_snoc (m : List Int) (x : Int) : dd (m ++ [x]) = (docAdd (dd m).1 (dd m).2 x).2 := by simp [dd]
theorem dd_facts : ∀ (n : Nat) (m : List Int), m.length = n → Srt (-1) (dd m).1 ∧ (dd m).1.length ≤ n ∧ (spn (dd m).1).length ≤ 32 := by
  intro n
  induction n with
  | zero =>
    intro m hm
    obtain rfl : m = [] := List.eq_nil_of_length_eq_zero hm
    exact ⟨trivial, Nat.zero_le _, Nat.zero_le _⟩
  | succ n ih =>
    intro m hm
    have hne : m ≠ [] := by intro e; subst e; simp at hm
    obtain ⟨m', x, rfl⟩ : ∃ m' x, m = m' ++ [x] := ⟨m.dropLast, m.getLast hne, (List.dropLast_concat_getLast hne).symm⟩
    have hl : m'.length = n := by simp at hm; exact hm
    obtain ⟨h1, h2, h3⟩ := ih m' hl
    obtain ⟨e, k1, k2⟩ := add_same (f := (dd m').2) (n := x) h1
    have k3 := addS_len (f := (dd m').2) (x := x) (spn_gd h1) h3
    rw [e] at k3
    rw [dd_snoc]
    exact ⟨k1, by omega, k3⟩
theorem take_snoc (m : List Int) (i : Nat) (hi : i < m.length) : m.take (i + 1) = m.take i ++ [rd m i] := by
  rw [List.take_succ_eq_append_getElem hi]
  simp [rd, List.getD_eq_getElem?_getD, List.getElem?_eq_getElem hi]

theorem below_drewN_ (W : World) (q : Nat) : Below W.heap.size W (W.drewN q) := pw_below_drewN (Below.refl _ _) q

/-! ### shibbolethlaw11_SpanAdds: function 4 -/
def shibbolethlaw11_SpanAdds.f (l0 l1 : List Int) : Option Bool := some true
set_option maxHeartbeats 4000000 in
set_option maxRecDepth 100000 in
theorem shibbolethlaw11_SpanAdds.calls (A0 : Option Addr) (c0 : Nat) (l0 : List Int) (A1 : Option Addr) (c1 : Nat) (l1 : List Int) (r : Bool) (w : World) (hr0 : Kd.C (Kd.int .i64) w A0 l0.length l0) (hc0 : l0.length ≤ c0) (hr1 : Kd.C (Kd.int .i64) w A1 l1.length l1) (hc1 : l1.length ≤ c1) (h : shibbolethlaw11_SpanAdds.f l0 l1 = some r) :
    Calls Try.prog 4 #[.slice A0 l0.length c0, .slice A1 l1.length c1] w fun e w' => e = .returned (.bool r) ∧ Below w.heap.size w w' := by
  obtain rfl : r = true := (Option.some.inj h).symm
  clear h
  have HC := Aside0.mk hr0
  have HC1 := Aside0.mk hr1
  obtain ⟨n, hn⟩ : ∃ n, l0.length = n := ⟨_, rfl⟩
  have HN := Aside0.mk hn
  obtain ⟨n1, hn1⟩ : ∃ n, l1.length = n := ⟨_, rfl⟩
  have HN1 := Aside0.mk hn1
  rw [hn, hn1]
  clear hr0 hc0 hn hr1 hc1 hn1
  by_cases b1 : 200 < n
  · have d1 : decide (200 < n) = true := decide_eq_true b1
    have d1' : decide (200 < (n : Int)) = true := decide_eq_true (by omega)
    go_enter Try.func4, Try.ntmps4
    go_wp2
    go_ret
    exact ⟨rfl, Below.refl _ _⟩
  have d1 : decide (200 < n) = false := decide_eq_false b1
  have d1' : decide (200 < (n : Int)) = false := decide_eq_false (by omega)
  by_cases b2 : 200 < n1
  · have d2 : decide (200 < n1) = true := decide_eq_true b2
    have d2' : decide (200 < (n1 : Int)) = true := decide_eq_true (by omega)
    go_enter Try.func4, Try.ntmps4
    go_wp2
    go_ret
    exact ⟨rfl, Below.refl _ _⟩
  have d2 : decide (200 < n1) = false := decide_eq_false b2
  have d2' : decide (200 < (n1 : Int)) = false := decide_eq_false (by omega)
  have hn200 : n ≤ 200 := by omega
  have hn1200 : n1 ≤ 200 := by omega
  clear b1 b2
  have T0 := Aside0.mk (Duo.new w)
  go_enter Try.func4, Try.ntmps4
  go_wp2
  clear d1 d1' d2 d2'
  go_loopg [7] n (fun gg v7 wr => ∃ i : Nat, v7 = .int .i64 (i : Int) ∧ i ≤ n ∧ n - i ≤ gg ∧ Aside0 (Duo w wr (dd (l0.take i)).2 (spn (dd (l0.take i)).1) w.heap.size (dd (l0.take i)).2 (dd (l0.take i)).1 (w.heap.size + 1)))
  case atStart => exact ⟨0, rfl, by omega, by omega, T0⟩
  case round =>
    obtain ⟨i, rfl, hi, hg, T⟩ := hrel
    clear T0
    by_cases hlt : i < n
    · obtain ⟨h1, h2, h3⟩ := dd_facts i (l0.take i) (by rw [List.length_take, HN.out]; omega)
      obtain ⟨k1, k2, k3⟩ := dd_facts (i + 1) (l0.take (i + 1)) (by rw [List.length_take, HN.out]; omega)
      have ES := show dd (l0.take (i + 1)) = (docAdd (dd (l0.take i)).1 (dd (l0.take i)).2 (rd l0 (i : Int))).2 by rw [take_snoc l0 i (by rw [HN.out]; exact hlt), dd_snoc]
      obtain ⟨esame, _, _⟩ := add_same (f := (dd (l0.take i)).2) (n := rd l0 (i : Int)) h1
      have T' := T.out
      obtain ⟨L, f, hL⟩ : ∃ L f, dd (l0.take i) = (L, f) := ⟨_, _, rfl⟩
      obtain ⟨L', f', hL'⟩ : ∃ L f, dd (l0.take (i + 1)) = (L, f) := ⟨_, _, rfl⟩
      have HL' := Aside0.mk hL'
      rw [hL] at h1 h2 h3 T' ES esame
      rw [hL'] at k1 k2 k3 ES
      simp only at h1 h2 h3 T' ES esame k1 k2 k3
      obtain ⟨r, hr⟩ : ∃ r, (docAdd L f (rd l0 (i : Int))).1 = r := ⟨_, rfl⟩
      rw [← ES, hr] at esame
      have C1 := (T'.below (below_drew (Below.refl _ _))).addS (gd_asc (spn_gd h1)) (gd_bd (spn_gd h1)) (by omega) (rd l0 (i : Int))
      rw [esame] at C1
      have C1 := Aside0.mk C1
      have C2 := fun (w1 : World) (T1 : Duo w w1 f' (spn L') w.heap.size f L (w.heap.size + 1)) => T1.addD h1 (by omega) (rd l0 (i : Int))
      rw [hr, ← ES] at C2
      have C2 := Aside0.mk C2
      have C3 := fun (w1 : World) (T1 : Duo w w1 f' (spn L') w.heap.size f' L' (w.heap.size + 1)) => T1.spansS (by omega)
      have C4 := fun (w1 : World) (T1 : Duo w w1 f' (spn L') w.heap.size f' L' (w.heap.size + 1)) => T1.spansD k1 (by omega)
      have C5 := fun (W : World) (A A' : Option Addr) (c c' : Nat) (h : Row W A c (spn L').reverse) (h' : Row W A' c' (spn L').reverse) => told_calls h h' (by rw [List.length_reverse]; omega)
      simp only [List.length_reverse, decide_true] at C5
      obtain ⟨m, hm⟩ : ∃ m, (spn L').length = m := ⟨_, rfl⟩
      rw [hm] at C3 C4 C5
      have C3 := Aside0.mk C3
      have C4 := Aside0.mk C4
      have C5 := Aside0.mk C5
      obtain ⟨ad, eA, hc⟩ := Kd.at_int (Kd.C_below HC.out T.out.bl) (i : Int) (by omega) (by have := HN.out; omega)
      replace hc : wr.cell? (ad.add i) = some (.int .i64 (rd l0 (i : Int))) := hc
      have HX := Aside0.mk (fun (w1 : World) (hb : Below w.heap.size w w1) => show w1.cell? (ad.add i) = some (.int .i64 (rd l0 (i : Int))) from by
        obtain ⟨ad', eA', hc'⟩ := Kd.at_int (Kd.C_below HC.out hb) (i : Int) (by omega) (by have := HN.out; omega)
        rw [eA] at eA'
        obtain rfl := Option.some.inj eA'
        exact hc')
      subst eA
      generalize rd l0 (i : Int) = x at *
      have hfm : Try.prog.follows .mixedOrders = true := by kernel_rfl
      clear h1 h2 h3 k1 k2 k3 ES esame hL hL' hr hm T' T
      go_upto_region 7 with fail
      go_region_law_o (first
        | (go_simp; go_at_call 7; refine C1.out.mono ?_; rintro e1 w1 ⟨rfl, hT⟩; have hx1 := HX.out w1 hT.bl; have T1 := Aside0.mk hT; clear hT)
        | (go_simp; go_at_call 10; refine (C2.out _ T1.out).mono ?_; rintro e2 w2 ⟨rfl, hT⟩; have T2 := Aside0.mk hT; clear hT)
        | (go_simp; go_at_call 8; refine (C3.out _ T2.out).mono ?_; rintro e3 w3 ⟨A3, c3, rfl, hR, hT, hb⟩; have T3 := Aside0.mk hT; have R3 := Aside0.mk hR; clear hT hR hb)
        | (go_simp; go_at_call 12; refine (C4.out _ T3.out).mono ?_; rintro e4 w4 ⟨A4, c4, rfl, hR, hT, hb⟩; have T4 := Aside0.mk hT; have R4 := Aside0.mk hR; have R34 := Aside0.mk (R3.out.move (fun k e => hb.block k (R3.out.lt k e))); clear hT hR hb)
        | (go_simp; go_at_call 11; refine (C5.out _ _ _ _ _ R34.out R4.out).mono ?_; rintro e5 w5 ⟨rfl, q, hq⟩; have hT : Duo _ w5 _ _ _ _ _ _ := (by rw [hq]; exact T4.out.below (below_drewN_ _ q)); have T5 := Aside0.mk hT; have hfl := hT.cell; clear hT hq)
        | (go_simp; go_at_call 13; refine (T5.out.floor).mono ?_; rintro e6 w6 ⟨rfl, rfl⟩))
      all_goals
        clear HX hfm C1 C2 C3 C4 C5
        go_wp2
        go_roundg (n - (i + 1))
        case measure => omega
        case rel => exact ⟨i + 1, by simp, by omega, by omega, by rw [HL'.out]; exact T5⟩
    · obtain rfl : i = n := by omega
      rw [List.take_of_length_le (by rw [HN.out]; exact Nat.le_refl _)] at T
      obtain ⟨h1, h2, h3⟩ := dd_facts i l0 HN.out
      obtain ⟨L, f, hL⟩ : ∃ L f, dd l0 = (L, f) := ⟨_, _, rfl⟩
      rw [hL] at h1 h2 h3 T
      have HS := Aside0.mk (show Srt (-1) L from h1)
      have HLL := Aside0.mk (show L.length ≤ 200 ∧ (spn L).length ≤ 32 from ⟨Nat.le_trans h2 hn200, h3⟩)
      replace T : Aside0 (Duo w _ f (spn L) w.heap.size f L (w.heap.size + 1)) := T
      clear h1 h2 h3 hL hlt hi hg
      go_wp2
      go_loopg [8] n1 (fun gg v8 wr => ∃ j : Nat, v8 = .int .i64 (j : Int) ∧ j ≤ n1 ∧ n1 - j ≤ gg ∧ Aside0 (Duo w wr f (spn L) w.heap.size f L (w.heap.size + 1)))
      case atStart => exact ⟨0, rfl, by omega, by omega, T⟩
      case round =>
        obtain ⟨j, rfl, hj, hg, T2⟩ := hrel
        by_cases hlt : j < n1
        · have T2' := T2.out.below (below_drew (Below.refl _ _))
          obtain ⟨r, hr⟩ : ∃ r, decide (rd l1 (j : Int) ∈ L) = r := ⟨_, rfl⟩
          have C1 := T2'.hasS (gd_asc (spn_gd HS.out)) (by have := HLL.out; omega) (rd l1 (j : Int))
          rw [has_same HS.out, hr] at C1
          have C1 := Aside0.mk C1
          have C2 := fun (w1 : World) (T1 : Duo w w1 f (spn L) w.heap.size f L (w.heap.size + 1)) => T1.hasD (by have := HLL.out; omega) (rd l1 (j : Int))
          rw [hr] at C2
          have C2 := Aside0.mk C2
          obtain ⟨ad, eA, hc⟩ := Kd.at_int (Kd.C_below HC1.out T2.out.bl) (j : Int) (by omega) (by have := HN1.out; omega)
          have HX := Aside0.mk (fun (w1 : World) (hb : Below w.heap.size w w1) => show w1.cell? (ad.add j) = some (.int .i64 (rd l1 (j : Int))) from by
            obtain ⟨ad', eA', hc'⟩ := Kd.at_int (Kd.C_below HC1.out hb) (j : Int) (by omega) (by have := HN1.out; omega)
            rw [eA] at eA'
            obtain rfl := Option.some.inj eA'
            exact hc')
          replace hc := HX.out _ T2.out.bl
          subst eA
          generalize rd l1 (j : Int) = x at *
          have hfm : Try.prog.follows .mixedOrders = true := by kernel_rfl
          clear hr T2' T2
          go_upto_region 12 with fail
          go_region_law_o (first
            | (go_simp; go_at_call 14; refine C1.out.mono ?_; rintro e1 w1 ⟨rfl, hT⟩; have hx1 := HX.out w1 hT.bl; have T1 := Aside0.mk hT; clear hT)
            | (go_simp; go_at_call 15; refine (C2.out _ T1.out).mono ?_; rintro e2 w2 ⟨rfl, rfl⟩))
          all_goals
            clear HX hfm C1 C2
            go_wp2
            go_roundg (n1 - (j + 1))
            case measure => omega
            case rel => exact ⟨j + 1, by simp, by omega, by omega, T1⟩
        · obtain rfl : j = n1 := by omega
          go_wp2_with (go_at_call 9; refine (awake_calls _).mono ?_; rintro e7 w7 ⟨rfl, hb⟩; have B7 := Aside0.mk (T2.out.bl.trans (hb.mono T2.out.bl.size)); clear hb)
          go_ret
          exact ⟨rfl, B7.out⟩
end Go.Proofs.Ytpihkmpcnkhnfaa.QSe
