/- SpanOrder: its function, walked by hand: at any numbers it answers true. -/
import Derived.Test.YtpihkmpcnkhnfaaSq1
namespace Go.Proofs.Ytpihkmpcnkhnfaa.QSd
open Go Go.RowKit Go.Lib Go.Proofs.YtpihkmpcnkhnfaaW.PrintWords Go.Proofs.Ytpihkmpcnkhnfaa.Sp
set_option linter.unusedVariables false
set_option linter.unusedSimpArgs false

/-- All of a list are added. -/
def aa (m : List Int) : List Spn := m.foldl (fun s x => (addS s 0 x).2.1) []
theorem aa_snoc (m : List Int) (x : Int) : aa (m ++ [x]) = (addS (aa m) 0 x).2.1 := by simp [aa]
theorem aa_facts : ∀ (n : Nat) (m : List Int), m.length = n → n ≤ 31 → Gd (-1) (aa m) ∧ (aa m).length ≤ n ∧ ∀ y, Inn (aa m) y ↔ (y ∈ m ∧ 0 ≤ y ∧ y ≤ 4611686018427387903) := by
  intro n
  induction n with
  | zero =>
    intro m hm _
    obtain rfl : m = [] := List.eq_nil_of_length_eq_zero hm
    exact ⟨trivial, Nat.le_refl _, fun y => by simp [aa, Inn]⟩
  | succ n ih =>
    intro m hm hn
    have hne : m ≠ [] := by intro e; subst e; simp at hm
    obtain ⟨m', x, rfl⟩ : ∃ m' x, m = m' ++ [x] := ⟨m.dropLast, m.getLast hne, (List.dropLast_concat_getLast hne).symm⟩
    have hl : m'.length = n := by simp at hm; exact hm
    obtain ⟨h1, h2, h3⟩ := ih m' hl (by omega)
    obtain ⟨_, k2, k3⟩ := addS_few (x := x) h1 (by omega)
    rw [aa_snoc]
    refine ⟨addS_gd h1, by omega, fun y => ?_⟩
    rw [k3 y, h3 y, List.mem_append, List.mem_singleton]
    constructor
    · rintro (q | ⟨rfl, q⟩)
      · exact ⟨.inl q.1, q.2⟩
      · exact ⟨.inr rfl, q⟩
    · rintro ⟨q | rfl, q2⟩
      · exact .inl ⟨q, q2⟩
      · exact .inr ⟨rfl, q2⟩
theorem aa_rev (m : List Int) (h : m.length ≤ 31) : aa m.reverse = aa m := by
  obtain ⟨h1, _, h3⟩ := aa_facts m.length m rfl h
  obtain ⟨k1, _, k3⟩ := aa_facts m.length m.reverse (by simp) h
  exact gd_ext k1 h1 (fun y => by rw [k3 y, h3 y, List.mem_reverse])
theorem take_snoc (m : List Int) (i : Nat) (hi : i < m.length) : m.take (i + 1) = m.take i ++ [rd m i] := by
  rw [List.take_succ_eq_append_getElem hi]
  simp [rd, List.getD_eq_getElem?_getD, List.getElem?_eq_getElem hi]
theorem rd_rev (m : List Int) (i : Nat) (hi : i < m.length) : rd m.reverse i = rd m ((m.length - 1 - i : Nat) : Int) := by
  simp [rd, List.getD_eq_getElem?_getD, List.getElem?_reverse hi]

/-! ### shibbolethlaw11_SpanOrder: function 3 -/
def shibbolethlaw11_SpanOrder.f (l0 : List Int) : Option Bool := some true
set_option maxHeartbeats 4000000 in
set_option maxRecDepth 100000 in
theorem shibbolethlaw11_SpanOrder.calls (A0 : Option Addr) (c0 : Nat) (l0 : List Int) (r : Bool) (w : World) (hr0 : Kd.C (Kd.int .i64) w A0 l0.length l0) (hc0 : l0.length ≤ c0) (h : shibbolethlaw11_SpanOrder.f l0 = some r) :
    Calls Try.prog 3 #[.slice A0 l0.length c0] w fun e w' => e = .returned (.bool r) ∧ Below w.heap.size w w' := by
  obtain rfl : r = true := (Option.some.inj h).symm
  clear h
  have HC := Aside0.mk hr0
  obtain ⟨n, hn⟩ : ∃ n, l0.length = n := ⟨_, rfl⟩
  have HN := Aside0.mk hn
  rw [hn]
  clear hr0 hc0 hn
  by_cases b1 : 31 < n
  · go_enter Try.func3, Try.ntmps3
    go_wp2
    go_ret
    exact ⟨rfl, Below.refl _ _⟩
  have hn31 : n ≤ 31 := by omega
  clear b1
  have T0 := Aside0.mk (Own2.new w)
  go_enter Try.func3, Try.ntmps3
  go_wp2
  go_loopg [5] n (fun gg v5 wr => ∃ i : Nat, v5 = .int .i64 (i : Int) ∧ i ≤ n ∧ n - i ≤ gg ∧ Aside0 (Own2 w wr 0 (aa (l0.take i)) w.heap.size 0 (aa (l0.reverse.take i)) (w.heap.size + 1)))
  case atStart => exact ⟨0, rfl, by omega, by omega, T0⟩
  case round =>
    obtain ⟨i, rfl, hi, hg, T⟩ := hrel
    clear T0
    by_cases hlt : i < n
    · have h1 := aa_facts i (l0.take i) (by rw [List.length_take, HN.out]; omega) (by omega)
      have h2 := aa_facts i (l0.reverse.take i) (by rw [List.length_take, List.length_reverse, HN.out]; omega) (by omega)
      have C1 := Aside0.mk (T.out.add (gd_asc h1.1) (gd_bd h1.1) (by omega) (rd l0 (i : Int)))
      have C2 := Aside0.mk (fun (w1 : World) f l (T1 : Own2 w w1 f l w.heap.size 0 (aa (l0.reverse.take i)) (w.heap.size + 1)) => T1.swap.add (gd_asc h2.1) (gd_bd h2.1) (by omega) (rd l0 ((n - 1 - i : Nat) : Int)))
      obtain ⟨ad, eA, hc⟩ := Kd.at_int (Kd.C_below HC.out T.out.bl) (i : Int) (by omega) (by have := HN.out; omega)
      have HC2 := Aside0.mk (fun (w1 : World) (hb : Below w.heap.size w w1) => show w1.cell? (ad.add (n - 1 - i)) = some (.int .i64 (rd l0 ((n - 1 - i : Nat) : Int))) from by
        obtain ⟨ad', eA', hc'⟩ := Kd.at_int (Kd.C_below HC.out hb) ((n - 1 - i : Nat) : Int) (by omega) (by have := HN.out; omega)
        rw [eA] at eA'
        obtain rfl := Option.some.inj eA'
        exact hc')
      replace hc : wr.cell? (ad.add i) = some (.int .i64 (rd l0 (i : Int))) := hc
      subst eA
      have F1 := Aside0.mk (addS_few (x := rd l0 (i : Int)) h1.1 (by omega)).1
      have F2 := Aside0.mk (addS_few (x := rd l0 ((n - 1 - i : Nat) : Int)) h2.1 (by omega)).1
      clear h1 h2
      go_wp2_with (first
        | (go_at_call 7; refine C1.out.mono ?_; rintro e1 w1 ⟨rfl, hT⟩; have hc' := HC2.out w1 hT.bl; have T1 := Aside0.mk hT; clear hT C1)
        | (go_at_call 7; refine (C2.out w1 _ _ T1.out).mono ?_; rintro e2 w2 ⟨rfl, hT⟩; rw [F1.out, F2.out] at hT; have T2 := Aside0.mk hT.swap; clear hT C2))
      go_roundg (n - (i + 1))
      case measure => omega
      case rel => exact ⟨i + 1, by simp, by omega, by omega, by
        rw [take_snoc l0 i (by rw [HN.out]; exact hlt), take_snoc l0.reverse i (by rw [List.length_reverse, HN.out]; exact hlt), aa_snoc, aa_snoc, rd_rev l0 i (by rw [HN.out]; exact hlt), HN.out]
        exact T2⟩
    · obtain rfl : i = n := by omega
      rw [List.take_of_length_le (by rw [HN.out]; exact Nat.le_refl _), List.take_of_length_le (by rw [List.length_reverse, HN.out]; exact Nat.le_refl _), aa_rev l0 (by rw [HN.out]; exact hn31)] at T
      obtain ⟨_, hlen, _⟩ := aa_facts i l0 HN.out hn31
      obtain ⟨m, hm⟩ : ∃ m, (aa l0).length = m := ⟨_, rfl⟩
      have HM := Aside0.mk hm
      have SX := Aside0.mk (T.out.spans (by omega))
      have SY := Aside0.mk (fun w1 (T1 : Own2 w w1 0 (aa l0) w.heap.size 0 (aa l0) (w.heap.size + 1)) => T1.swap.spans (by omega))
      rw [hm] at SX SY hlen
      have hm31 : m ≤ 31 := by omega
      clear hlt hi hg hlen hm hn31
      go_wp2_with (first
        | (go_at_call 8; refine SX.out.mono ?_; rintro e5 w5 ⟨A5, c5, rfl, hR, hT, _⟩; have T5 := Aside0.mk hT; have R5 := Aside0.mk hR; clear hT hR T SX)
        | (go_at_call 8; refine (SY.out w5 T5.out).mono ?_; rintro e6 w6 ⟨A6, c6, rfl, hR, hT, hb⟩; have T6 := Aside0.mk hT; have R6 := Aside0.mk hR; replace R5 := Aside0.mk (R5.out.move (fun k e => hb.block k (R5.out.lt k e))); clear hT hR T5 SY hb))
      have RV := Aside0.mk (show (aa l0).reverse.length = m by rw [List.length_reverse, HM.out])
      go_loopg [8] m (fun gg v8 wr => ∃ (k q : Nat), v8 = .int .i64 (k : Int) ∧ k ≤ m ∧ m - k ≤ gg ∧ wr = w6.drewN q)
      case atStart => exact ⟨0, 0, rfl, by omega, by omega, rfl⟩
      case round =>
        obtain ⟨k, q, rfl, hk, hg, rfl⟩ := hrel
        by_cases hlt : k < m
        · obtain ⟨b, off, hA, x1, x2⟩ := R5.out.get k (by rw [RV.out]; exact hlt)
          obtain ⟨b', off', hA', y1, y2⟩ := R6.out.get k (by rw [RV.out]; exact hlt)
          obtain ⟨s1, s2, hs⟩ : ∃ s1 s2, (aa l0).reverse[k]'(by rw [RV.out]; exact hlt) = (s1, s2) := ⟨_, _, rfl⟩
          rw [hs] at x1 x2 y1 y2
          subst hA hA'
          clear hs
          go_wp2
          go_quiet (fail)
          go_wp2
          go_roundg (m - (k + 1))
          case measure => omega
          case rel => exact ⟨k + 1, q + nq, by simp, by omega, by omega, by rw [← World.drewN_drewN]⟩
        · obtain rfl : k = m := by omega
          have B0 := Aside0.mk (show Below w.heap.size w (w6.drewN q) from pw_below_drewN T6.out.bl q)
          go_wp2_with (go_at_call 9; refine (awake_calls _).mono ?_; rintro e7 w7 ⟨rfl, hb⟩; have B7 := Aside0.mk (B0.out.trans (hb.mono B0.out.size)); clear hb)
          go_ret
          exact ⟨rfl, B7.out⟩
end Go.Proofs.Ytpihkmpcnkhnfaa.QSd
