/- The document's set, walked: Spans. -/
import Derived.Test.YtpihkmpcnkhnfaaSd1
import Derived.Test.YtpihkmpcnkhnfaaSq3
import Derived.Deep.AppendLies
import Derived.Laws.OwnMore
namespace Go.Proofs.Ytpihkmpcnkhnfaa.Sp
open Go Go.RowKit Go.Lib Go.Proofs.YtpihkmpcnkhnfaaW.PrintWords
open Go.Proofs.Ytpihkmpcnkhnfaa.Onl (Only)
set_option linter.unusedVariables false
set_option linter.unusedSimpArgs false

theorem info_dspan : (Try.prog.info? 53).map (fun i => (i.zero, i.size, i.bytes)) = some (some (.agg #[.int .i64 0, .int .i64 0]), 2, 16) := by kernel_rfl
/-- A row of the call's own, as it is told. -/
theorem row_of_own {W : World} {base e n : Nat} {v : Value} {l : List Spn} (h : W.ownsRow base e 2 v n (enc l)) (h0 : v = .slice none 0 0 ∨ 0 < n) : ∃ A c, v = .slice A n c ∧ l.length = n ∧ Row W A c l ∧ (A = none ∨ ∃ b, A = some ⟨b, 0, none⟩ ∧ base ≤ b) := by
  have hl : l.length = n := by have := h.1; rw [enc_length] at this; omega
  rcases h.2 with ⟨rfl, rfl⟩ | ⟨g, cap, cur, rfl, hb, hg, hnc, hcm, hcs, htake⟩
  · obtain rfl : l = [] := List.eq_nil_of_length_eq_zero hl
    exact ⟨none, 0, rfl, rfl, .inl ⟨rfl, rfl, rfl⟩, .inl rfl⟩
  · have h0 : 0 < n := h0.resolve_left (fun q => by cases q)
    refine ⟨some ⟨g, 0, none⟩, cap, rfl, hl, .inr ⟨g, 0, rfl, ⟨⟨cur, e, hg, by omega, by omega⟩, fun j u hj => ?_, by omega, by unfold maxLen at hcm; omega⟩⟩, .inr ⟨g, rfl, hb⟩⟩
    have hj2 : j < n * 2 := by
      have := (List.getElem?_eq_some_iff.1 hj).1
      rw [enc_length] at this; omega
    rw [Nat.zero_add, World.ownsRow.cellAt h j hj2]; exact hj
theorem grown_below {W W1 w' : World} {B : Nat} {row : Option Nat} (h : Below B W W1) (hg : W1.grownBy w' row) (hB : B ≤ W.heap.size) (hr : ∀ k, row = some k → B ≤ k) : Below B W w' :=
  ⟨hg.os.trans h.os, hg.tape.trans h.tape, hg.output.trans h.output, Nat.le_trans h.size hg.size, fun k hk => (hg.block k (Nat.lt_of_lt_of_le hk (Nat.le_trans hB h.size)) (fun e => by have := hr k e.symm; omega)).trans (h.block k hk)⟩
theorem enc_set (r : List Spn) (s : Spn) (x : Int) : (enc (r ++ [s])).set (r.length * 2) (.int .i64 x) = enc (r ++ [(x, s.2)]) := by
  have e : r.length * 2 = (enc r).length := by rw [enc_length]; omega
  rw [enc_append, enc_append, e, List.set_append_right _ _ (Nat.le_refl _), Nat.sub_self]
  rfl
theorem drop_cons (L : List Int) (m : Nat) (h : m < L.length) : L.drop m = L[m] :: L.drop (m + 1) := List.drop_eq_getElem_cons h

set_option maxHeartbeats 4000000 in
set_option maxRecDepth 100000 in
theorem dspans_calls {W : World} {db : Nat} {A : Option Addr} {c : Nat} {f : Int} {L : List Int} (hD : Dt W db A c f L) (hs : Srt (-1) L) (hl : L.length ≤ 1000) :
    Calls Try.prog 12 #[.pointer (some ⟨db, 0, none⟩)] W (Made W (spn L).reverse) := by
  have D := Aside0.mk hD
  have HS := Aside0.mk hs
  obtain ⟨n, hn⟩ : ∃ n, L.length = n := ⟨_, rfl⟩
  have HN := Aside0.mk hn
  have HL := Aside0.mk (show n ≤ 1000 by omega)
  obtain ⟨ii, hi_, hz_, hs_, hb_⟩ := info_parts info_dspan
  have I := Aside0.mk (And.intro hi_ (And.intro hz_ (And.intro hs_ hb_)))
  clear hi_ hz_ hs_ hb_
  have c0 := hD.cells.1
  rw [hn] at c0
  clear hD hs hn hl
  go_enter Try.func12, Try.ntmps12
  have nb := HL.out
  go_wp2
  clear nb
  go_loopg [3, 4] n (fun gg v3 v4 wr => ∃ (m : Nat) (z : Int), v4 = .int .i64 z ∧ z = (m : Int) - 1 ∧ m ≤ n ∧ m ≤ gg ∧ Aside0 (wr.ownsRow W.heap.size 53 2 v3 (spn (L.drop m)).length (enc (spn (L.drop m)).reverse)) ∧ Aside0 (v3 = .slice none 0 0 ∨ 0 < (spn (L.drop m)).length) ∧ Aside0 (Below W.heap.size W wr))
  case atStart => exact ⟨n, _, rfl, by omega, by omega, by omega, ⟨by rw [List.drop_eq_nil_of_le (by rw [HN.out]; exact Nat.le_refl _)]; exact World.ownsRow_nil _ _ _ _⟩, ⟨.inl rfl⟩, ⟨Below.refl _ _⟩⟩
  case round =>
    obtain ⟨m, z, rfl, hz, hm, hg, O, OZ, B⟩ := hrel
    by_cases hpos : 0 < m
    · obtain ⟨i, rfl⟩ : ∃ i, m = i + 1 := ⟨m - 1, by omega⟩
      obtain rfl : z = (i : Int) := by omega
      clear hz
      have hin : i < L.length := by rw [HN.out]; omega
      have DR := D.out.below B.out
      have c1 := DR.cells.1
      obtain ⟨ad, eA, hc⟩ := DR.at_ i hin
      obtain ⟨x, hx⟩ : ∃ x, L[i] = x := ⟨_, rfl⟩
      have HX := Aside0.mk hx
      have HDC := Aside0.mk (show L.drop i = x :: L.drop (i + 1) by rw [← hx]; exact drop_cons L i hin)
      have hxb := srt_low HS.out (List.getElem_mem hin)
      rw [HX.out] at hxb
      rw [hx] at hc
      rw [HN.out] at c1
      subst eA
      clear DR HX hx hin
      have ge : decide (0 ≤ (i : Int)) = true := decide_eq_true (by omega)
      have bi : i < n := by omega
      have nb := HL.out
      rcases hacc : spn (L.drop (i + 1)) with _ | ⟨s, r⟩
      · have HACC := Aside0.mk hacc
        have hv3 : u3 = .slice none 0 0 := OZ.out.resolve_right (by rw [hacc]; simp)
        subst hv3
        clear hacc
        have ge0 : decide ((0 : Int) ≤ -1) = false := by decide
        go_wp2
        go_quiet (fail)
        go_wp2
        have CONS := Aside0.mk (show cons1 x (spn (L.drop (i + 1))) = (x, x) :: spn (L.drop (i + 1)) by rw [HACC.out]; rfl)
        have c2 : (wr.drewN nq).cell? ⟨db, 0, none⟩ = some (.slice (some ad) n c) := by rw [World.cell?_drewN]; exact c1
        have hc2 : (wr.drewN nq).cell? (ad.add i) = some (.int .i64 x) := by rw [World.cell?_drewN]; exact hc
        have O1 : (wr.drewN nq).ownsRow W.heap.size 53 2 (.slice none 0 0) (spn (L.drop (i + 1))).length (enc (spn (L.drop (i + 1))).reverse) := O.out
        have B1 := Aside0.mk (pw_below_drewN B.out nq)
        generalize wr.drewN nq = W1 at c2 hc2 O1 B1 ⊢
        rw [show (spn (L.drop (i + 1))).length = 0 by rw [HACC.out]; rfl] at O1
        have O2 := Aside0.mk ((O1.alloc (.cells #[.int .i64 x, .int .i64 x] 53)).drew)
        have N2 := Aside0.mk (show ∀ (j : Nat) (u : Value), [Value.int .i64 x, Value.int .i64 x][j]? = some u → ((W1.alloc (.cells #[.int .i64 x, .int .i64 x] 53)).drew).cell? ((⟨W1.heap.size, 0, none⟩ : Addr).add j) = some u from fun j u hj => by
          rw [Addr.add_lit, Nat.zero_add]
          show (W1.alloc _).cell? _ = _
          rw [World.cell?_alloc_at _ _ _ _ rfl]
          simpa using hj)
        have B2 := Aside0.mk (show Below W.heap.size W ((W1.alloc (.cells #[.int .i64 x, .int .i64 x] 53)).drew) from below_drew (below_alloc B1.out _))
        have PUT := Aside0.mk (show ∀ (g cap : Nat) (w' : World), w'.ownsRow W.heap.size 53 2 (.slice (some ⟨g, 0, none⟩) (0 + 1) cap) (0 + 1) (enc (spn (L.drop (i + 1))).reverse ++ [.int .i64 x, .int .i64 x]) → w'.ownsRow W.heap.size 53 2 (.slice (some ⟨g, 0, none⟩) (0 + 1) cap) (spn (L.drop i)).length (enc (spn (L.drop i)).reverse) ∧ 0 < (spn (L.drop i)).length from fun g cap w' h => by
          have e : spn (L.drop i) = (x, x) :: spn (L.drop (i + 1)) := by rw [HDC.out, spn_cons]; exact CONS.out
          have e2 : (spn (L.drop i)).length = 0 + 1 := by rw [e, List.length_cons, show (spn (L.drop (i + 1))).length = 0 by rw [HACC.out]; rfl]
          rw [e2]
          refine ⟨?_, Nat.succ_pos _⟩
          rw [e, List.reverse_cons, enc_append]
          exact h)
        have KB := Aside0.mk (show 0 ≤ 1000 by have := spn_len (L.drop (i + 1)); rw [show (spn (L.drop (i + 1))).length = 0 by rw [HACC.out]; rfl, List.length_drop, HN.out] at this; have := HL.out; omega)
        clear O1 c1 hc
        go_region_law_o (refine step_append_lies _ rfl (.tmp 48) (.tmp 64) 37 rfl W.heap.size 53 ii (.agg #[.int .i64 0, .int .i64 0]) 2 16 Try.underlying37 I.out.1 I.out.2.1 I.out.2.2.1 I.out.2.2.2 rfl (by decide) (.slice none 0 0) 0 _ (by simp [Act.eval, Act.put]) O2.out ⟨W1.heap.size, 0, none⟩ 1 1 [.int .i64 x, .int .i64 x] (by simp [Act.eval, Act.put]) rfl N2.out (by simp [Value.oneCell']) (by decide) (by have := KB.out; unfold maxLen; omega) (by have := KB.out; omega) (below_size B2.out) _ rfl ?_; intro g cap w6 ho hg hat hlt; have P6 := Aside0.mk (PUT.out g cap w6 ho); have B6 := Aside0.mk (grown_below B2.out hg (Nat.le_refl _) (fun k e => by cases e)); clear ho hg hat hlt)
        all_goals
          go_wp2
          go_roundg i
          case measure => omega
          case rel => exact ⟨i, _, rfl, by omega, by omega, by omega, ⟨P6.out.1⟩, ⟨.inr P6.out.2⟩, ⟨B6.out⟩⟩
      · obtain ⟨s1, s2⟩ := s
        obtain ⟨k, hk⟩ : ∃ k, r.length = k := ⟨_, rfl⟩
        have HK := Aside0.mk hk
        have HACC := Aside0.mk hacc
        have hlen : (spn (L.drop (i + 1))).length = k + 1 := by rw [hacc, List.length_cons, hk]
        obtain ⟨g0, cap0, e3, hgb, hglt⟩ := O.out.form (by rw [hlen]; omega)
        rw [hlen] at e3
        subst e3
        have G0 := Aside0.mk hgb
        have O' := O.out
        rw [hlen, HACC.out, List.reverse_cons] at O'
        have hrk : r.reverse.length = k := by rw [List.length_reverse, hk]
        have hcell : wr.cell? ⟨g0, k * 2, none⟩ = some (.int .i64 s1) := by
          rw [World.ownsRow.cellAt O' (k * 2) (by omega)]
          have := (enc_at (r.reverse ++ [(s1, s2)]) k (by simp [hk])).1
          rw [Nat.mul_comm 2 k] at this
          rw [this]
          simp [← hrk]
        have hfz : wr.frozen? ⟨g0, k * 2, none⟩ = false := World.ownsRow.frozenAt O' _
        have OO := Aside0.mk O'
        have kb : k ≤ 1000 := by
          have := spn_len (L.drop (i + 1))
          rw [hlen, List.length_drop, HN.out] at this
          omega
        have wx : IntKind.i64.wrap (x + 1) = x + 1 := w64' (by omega)
        have gek : decide ((0 : Int) ≤ (k : Int)) = true := decide_eq_true (by omega)
        clear hacc hlen O' hrk hk hgb hglt
        by_cases hs1 : s1 = x + 1
        · subst hs1
          have SET := Aside0.mk (show ∀ nq, ((wr.drewN nq).setCell ⟨g0, k * 2, none⟩ (.int .i64 x)).ownsRow W.heap.size 53 2 (.slice (some ⟨g0, 0, none⟩) (k + 1) cap0) (spn (L.drop i)).length (enc (spn (L.drop i)).reverse) ∧ 0 < (spn (L.drop i)).length ∧ Below W.heap.size W ((wr.drewN nq).setCell ⟨g0, k * 2, none⟩ (.int .i64 x)) from fun nq => by
            have e : spn (L.drop i) = (x, s2) :: r := by rw [HDC.out, spn_cons, HACC.out]; exact if_pos rfl
            have O2 : (wr.drewN nq).ownsRow W.heap.size 53 2 (.slice (some ⟨g0, 0, none⟩) (k + 1) cap0) (k + 1) (enc (r.reverse ++ [(x + 1, s2)])) := OO.out
            obtain ⟨h1, h2⟩ := O2.stored (k * 2) (.int .i64 x)
            have es := enc_set r.reverse (x + 1, s2) x
            rw [List.length_reverse, HK.out] at es
            rw [es] at h1
            rw [e, List.reverse_cons, List.length_cons, HK.out]
            exact ⟨h1, Nat.succ_pos _, grown_below (pw_below_drewN B.out nq) h2 (Nat.le_refl _) (fun k_ e => by injection e with e; subst e; exact G0.out)⟩)
          go_wp2
          go_quiet (fail)
          go_wp2
          go_roundg i
          case measure => omega
          case rel => exact ⟨i, _, rfl, by omega, by omega, by omega, ⟨(SET.out nq).1⟩, ⟨.inr (SET.out nq).2.1⟩, ⟨(SET.out nq).2.2⟩⟩
        · have q1 : (s1 == x + 1) = false := by simp [hs1]
          have CONS := Aside0.mk (show cons1 x (spn (L.drop (i + 1))) = (x, x) :: spn (L.drop (i + 1)) by rw [HACC.out]; exact if_neg hs1)
          clear hs1
          go_wp2
          go_quiet (fail)
          go_wp2
          have c2 : (wr.drewN nq).cell? ⟨db, 0, none⟩ = some (.slice (some ad) n c) := by rw [World.cell?_drewN]; exact c1
          have hc2 : (wr.drewN nq).cell? (ad.add i) = some (.int .i64 x) := by rw [World.cell?_drewN]; exact hc
          have O1 : (wr.drewN nq).ownsRow W.heap.size 53 2 (.slice (some ⟨g0, 0, none⟩) (k + 1) cap0) (spn (L.drop (i + 1))).length (enc (spn (L.drop (i + 1))).reverse) := O.out
          have B1 := Aside0.mk (pw_below_drewN B.out nq)
          generalize wr.drewN nq = W1 at c2 hc2 O1 B1 ⊢
          rw [show (spn (L.drop (i + 1))).length = k + 1 by rw [HACC.out, List.length_cons, HK.out]] at O1
          have O2 := Aside0.mk ((O1.alloc (.cells #[.int .i64 x, .int .i64 x] 53)).drew)
          have N2 := Aside0.mk (show ∀ (j : Nat) (u : Value), [Value.int .i64 x, Value.int .i64 x][j]? = some u → ((W1.alloc (.cells #[.int .i64 x, .int .i64 x] 53)).drew).cell? ((⟨W1.heap.size, 0, none⟩ : Addr).add j) = some u from fun j u hj => by
            rw [Addr.add_lit, Nat.zero_add]
            show (W1.alloc _).cell? _ = _
            rw [World.cell?_alloc_at _ _ _ _ rfl]
            simpa using hj)
          have B2 := Aside0.mk (show Below W.heap.size W ((W1.alloc (.cells #[.int .i64 x, .int .i64 x] 53)).drew) from below_drew (below_alloc B1.out _))
          have PUT := Aside0.mk (show ∀ (g cap : Nat) (w' : World), w'.ownsRow W.heap.size 53 2 (.slice (some ⟨g, 0, none⟩) ((k + 1) + 1) cap) ((k + 1) + 1) (enc (spn (L.drop (i + 1))).reverse ++ [.int .i64 x, .int .i64 x]) → w'.ownsRow W.heap.size 53 2 (.slice (some ⟨g, 0, none⟩) ((k + 1) + 1) cap) (spn (L.drop i)).length (enc (spn (L.drop i)).reverse) ∧ 0 < (spn (L.drop i)).length from fun g cap w' h => by
            have e : spn (L.drop i) = (x, x) :: spn (L.drop (i + 1)) := by rw [HDC.out, spn_cons]; exact CONS.out
            have e2 : (spn (L.drop i)).length = (k + 1) + 1 := by rw [e, List.length_cons, show (spn (L.drop (i + 1))).length = k + 1 by rw [HACC.out, List.length_cons, HK.out]]
            rw [e2]
            refine ⟨?_, Nat.succ_pos _⟩
            rw [e, List.reverse_cons, enc_append]
            exact h)
          have KB := Aside0.mk (show (k + 1) ≤ 1000 by have := spn_len (L.drop (i + 1)); rw [show (spn (L.drop (i + 1))).length = k + 1 by rw [HACC.out, List.length_cons, HK.out], List.length_drop, HN.out] at this; have := HL.out; omega)
          clear O1 c1 hc
          go_region_law_o (refine step_append_lies _ rfl (.tmp 48) (.tmp 64) 37 rfl W.heap.size 53 ii (.agg #[.int .i64 0, .int .i64 0]) 2 16 Try.underlying37 I.out.1 I.out.2.1 I.out.2.2.1 I.out.2.2.2 rfl (by decide) (.slice (some ⟨g0, 0, none⟩) (k + 1) cap0) (k + 1) _ (by simp [Act.eval, Act.put]) O2.out ⟨W1.heap.size, 0, none⟩ 1 1 [.int .i64 x, .int .i64 x] (by simp [Act.eval, Act.put]) rfl N2.out (by simp [Value.oneCell']) (by decide) (by have := KB.out; unfold maxLen; omega) (by have := KB.out; omega) (below_size B2.out) _ rfl ?_; intro g cap w6 ho hg hat hlt; have P6 := Aside0.mk (PUT.out g cap w6 ho); have B6 := Aside0.mk (grown_below B2.out hg (Nat.le_refl _) (fun k_ e => by injection e with e; subst e; exact G0.out)); clear ho hg hat hlt)
          all_goals
            go_wp2
            go_roundg i
            case measure => omega
            case rel => exact ⟨i, _, rfl, by omega, by omega, by omega, ⟨P6.out.1⟩, ⟨.inr P6.out.2⟩, ⟨B6.out⟩⟩
    · obtain rfl : m = 0 := by omega
      have ge0 : decide ((0 : Int) ≤ z) = false := decide_eq_false (by omega)
      clear hz
      obtain ⟨A', c', rfl, hlr, hR, hA⟩ := row_of_own O.out (OZ.out.imp id id)
      have HP := Aside0.mk (show Made W (spn L).reverse (.returned (.slice A' (spn (L.drop 0)).length c')) wr from ⟨A', c', by simp, hR, hA, B.out⟩)
      go_wp2

      go_ret
      exact HP.out
end Go.Proofs.Ytpihkmpcnkhnfaa.Sp
