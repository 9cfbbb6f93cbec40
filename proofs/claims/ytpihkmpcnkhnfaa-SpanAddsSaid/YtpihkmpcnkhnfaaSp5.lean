/- A set's spans, told: Clone, Reverse, Spans. -/
import Derived.Test.YtpihkmpcnkhnfaaSp4
namespace Go.Proofs.Ytpihkmpcnkhnfaa.Sp
open Go Go.RowKit Go.Lib Go.Proofs.YtpihkmpcnkhnfaaW.PrintWords
open Go.Proofs.Ytpihkmpcnkhnfaa.Onl (Only)
set_option linter.unusedVariables false
set_option linter.unusedSimpArgs false

/-- A new row with these spans. -/
def Made (W : World) (l : List Spn) (e : Ending) (W' : World) : Prop :=
  ∃ A' c', e = .returned (.slice A' l.length c') ∧ Row W' A' c' l ∧ (A' = none ∨ ∃ b, A' = some ⟨b, 0, none⟩ ∧ W.heap.size ≤ b) ∧ Below W.heap.size W W'

set_option maxHeartbeats 4000000 in
set_option maxRecDepth 100000 in
theorem clone_calls {W : World} {A : Option Addr} {c : Nat} {l : List Spn} (h : Row W A c l) (hz : A = none ∨ 0 < l.length) (hl : l.length ≤ 1000) :
    Calls Try.prog 20 #[.slice A l.length c] W (Made W l) := by
  have hnil : ∀ (w : World) a n cc, (binOp .eql 24 (.slice a n cc) (.slice none 0 0)).run Try.prog w = .ok (.bool a.isNone) w := fun w a n cc => Lib.run_eql_slice_nil w _ _ a n cc 0 0 slice_span
  rcases h with ⟨rfl, rfl, rfl⟩ | ⟨b, off, rfl, h⟩
  · go_enter Try.func20, Try.ntmps20
    go_wp2
    go_ret
    exact ⟨none, 0, rfl, .inl ⟨rfl, rfl, rfl⟩, .inl rfl, Below.refl _ _⟩
  · have hpos : 0 < l.length := hz.resolve_left (fun e => by cases e)
    obtain ⟨i, hi, hzz, hs, hb⟩ := info_parts info_span
    obtain ⟨W0, hW0⟩ : ∃ y, W.alloc (.cells #[] 30) = y := ⟨_, rfl⟩
    have hB0 : Below W.heap.size W W0 := by rw [← hW0]; exact below_alloc (Below.refl _ _) _
    have h0 : RowAt W0 b off c l := h.move (hB0.block b h.lt)
    have hsz : W0.heap.size = W.heap.size + 1 := by rw [← hW0, World.size_alloc]
    have hsrc : Src Try.prog i.size 24 (.slice (some ⟨b, off, none⟩) l.length c) l.length (enc l) W0 := by
      rw [hs]
      exact Src.ofSlice W0 slice_span ⟨b, off, none⟩ l.length c (enc l) (by rw [enc_length]; omega) (fun j u hj => by rw [Addr.add_lit]; exact h0.at_ j u hj) (enc_one _)
    have hrun : ∀ ty, (Builtin.append_ #[24, 24] ty #[.slice (some ⟨W.heap.size, 0, none⟩) 0 0, .slice (some ⟨b, off, none⟩) l.length c]).run Try.prog W0 = .ok (.slice (some ⟨W0.heap.size, 0, none⟩) (0 + l.length) (grownCap W0 (0 + l.length) 0 30)) (W0.drew.alloc (.cells (([] ++ enc l).toArray ++ Builtin.zeroCells (Value.agg #[.int .i64 0, .int .i64 0]).cells (grownCap W0 (0 + l.length) 0 30 - (0 + l.length))) 30)) := fun ty =>
      run_append_grow_src W0 24 24 ty 30 i _ slice_span hi hzz (some ⟨W.heap.size, 0, none⟩) 0 0 [] (run_firstCells_some W0.drew i.size 0 ⟨W.heap.size, 0, none⟩ 0 0 [] (by simp) (fun j v hj => by simp at hj)) _ l.length (enc l) hsrc (by omega) (by omega) (by rw [hb]; exact growslice_fits (by omega) (by omega))
    rw [Nat.zero_add, List.nil_append] at hrun
    have hG := grownCap_ge W0 l.length 0 30
    have hGm := grownCap_le_maxLen W0 l.length 0 30 (by unfold maxLen; omega)
    generalize grownCap W0 l.length 0 30 = G at *
    have hP := RowAt.grown (W := W0) (G := G) (n := l.length) (l := l) (z := Builtin.zeroCells (Value.agg #[.int .i64 0, .int .i64 0]).cells (G - l.length)) rfl hG hpos (by unfold maxLen; omega) hGm (zeros_size _)
    have hO : Below W0.heap.size W0 (W0.drew.alloc (.cells ((enc l).toArray ++ Builtin.zeroCells (Value.agg #[.int .i64 0, .int .i64 0]).cells (G - l.length)) 30)) := below_alloc (below_drew (Below.refl _ _)) _
    generalize W0.drew.alloc (.cells ((enc l).toArray ++ Builtin.zeroCells (Value.agg #[.int .i64 0, .int .i64 0]).cells (G - l.length)) 30) = W1 at *
    obtain ⟨n, hn⟩ : ∃ n, l.length = n := ⟨_, rfl⟩
    have HP := Aside0.mk (show Made W l (.returned (.slice (some ⟨W0.heap.size, 0, none⟩) n G)) W1 from
      ⟨some ⟨W0.heap.size, 0, none⟩, G, by rw [hn], .inr ⟨_, 0, rfl, hP⟩, .inr ⟨_, rfl, by omega⟩, below_step hB0 hO⟩)
    rw [hn] at hrun ⊢
    have HRUN := Aside0.mk hrun
    have HW0 := Aside0.mk hW0
    clear hP hO h h0 hz hpos hi hzz hs hb hB0 hsz hsrc hrun hG hGm hn hW0
    go_enter Try.func20, Try.ntmps20
    go_wp2_with (at_builtin; refine Lib.wpList_append_run _ rfl _ _ _ _ rfl _ _ rfl rfl _ _ (by rw [HW0.out]; exact HRUN.out _) ?_)
    go_ret
    exact HP.out

/-- One span is written over. -/
theorem RowAt.set {W : World} {b c : Nat} {l : List Spn} (h : RowAt W b 0 c l) (k : Nat) (hk : k < l.length) (x : Spn) :
    RowAt ((W.setCell ⟨b, k * 2, none⟩ (.int .i64 x.1)).setCell ⟨b, k * 2 + 1, none⟩ (.int .i64 x.2)) b 0 c (l.set k x) := by
  have := h.put k [x] (by omega) (by have := h.le; simp; omega)
  rw [List.length_singleton, show l.take k ++ [x] ++ l.drop (k + 1) = l.set k x by rw [List.set_eq_take_append_cons_drop, if_pos hk]; simp, Nat.zero_add, Nat.mul_comm 2 k] at this
  exact this

set_option maxHeartbeats 4000000 in
set_option maxRecDepth 100000 in
theorem reverse_calls {W : World} {b c : Nat} {l : List Spn} (h : RowAt W b 0 c l) (hpos : 0 < l.length) (hl : l.length ≤ 1000) :
    Calls Try.prog 21 #[.slice (some ⟨b, 0, none⟩) l.length c] W fun e w' => (∃ v, e = .returned v) ∧ RowAt w' b 0 c l.reverse ∧ Only (fun k => k = b) W w' := by
  have mixed : Try.prog.follows .mixedOrders = true := by kernel_rfl
  obtain ⟨n, hn⟩ : ∃ n, l.length = n := ⟨_, rfl⟩
  have H := Aside0.mk h
  have HN := Aside0.mk hn
  rw [hn] at hpos hl ⊢
  clear h hn
  go_enter Try.func21, Try.ntmps21
  go_wp2
  go_loopg [2, 3] n (fun gg v2 v3 wr => ∃ (k j : Nat) (m : List Spn), v2 = .int .i64 (k : Int) ∧ v3 = .int .i64 (j : Int) ∧ k + j + 1 = n ∧ k ≤ j + 1 ∧ j + 1 - k ≤ gg ∧ Aside0 (RowAt wr b 0 c m) ∧ Aside0 (m.length = n) ∧ Aside0 (∀ t, t < n → m[t]? = if t < k ∨ j < t then l[n - 1 - t]? else l[t]?) ∧ Aside0 (Only (fun k => k = b) W wr))
  case atStart => exact ⟨0, n - 1, l, rfl, by congr 1; omega, by omega, by omega, by omega, H, HN, ⟨fun t ht => by rw [if_neg (by omega)]⟩, ⟨Only.refl _ _⟩⟩
  case round =>
    obtain ⟨k, j, m, rfl, rfl, hkj, hle, hg, RM, ML, EL, OO⟩ := hrel
    by_cases hlt : k < j
    · have hk : k < m.length := by have := ML.out; omega
      have hj : j < m.length := by have := ML.out; omega
      obtain ⟨a1, a2, b1, b2, ha, hb⟩ : ∃ a1 a2 b1 b2, m[k] = (a1, a2) ∧ m[j] = (b1, b2) := ⟨_, _, _, _, rfl, rfl⟩
      have gk := RM.out.get k hk
      have gj := RM.out.get j hj
      rw [ha, Nat.zero_add, Nat.zero_add, Nat.mul_comm 2 k] at gk
      rw [hb, Nat.zero_add, Nat.zero_add, Nat.mul_comm 2 j] at gj
      obtain ⟨k1, k2⟩ := gk
      obtain ⟨j1, j2⟩ := gj
      have z1 := RM.out.fz (k * 2)
      have z2 := RM.out.fz (k * 2 + 1)
      have z3 := RM.out.fz (j * 2)
      have z4 := RM.out.fz (j * 2 + 1)
      have n1 : ¬ (k * 2 = j * 2) := by omega
      have n2 : ¬ (k * 2 = j * 2 + 1) := by omega
      have n3 : ¬ (k * 2 + 1 = j * 2) := by omega
      have n4 : ¬ (k * 2 + 1 = j * 2 + 1) := by omega
      have n5 : ¬ (j * 2 = k * 2) := by omega
      have n6 : ¬ (j * 2 + 1 = k * 2) := by omega
      have n7 : ¬ (j * 2 = k * 2 + 1) := by omega
      have n8 : ¬ (j * 2 + 1 = k * 2 + 1) := by omega
      have hkn : k < n := by omega
      have hjn : j < n := by omega
      have R2 := Aside0.mk (show RowAt ((((wr.setCell ⟨b, k * 2, none⟩ (.int .i64 b1)).setCell ⟨b, k * 2 + 1, none⟩ (.int .i64 b2)).setCell ⟨b, j * 2, none⟩ (.int .i64 a1)).setCell ⟨b, j * 2 + 1, none⟩ (.int .i64 a2)).drew b 0 c ((m.set k (b1, b2)).set j (a1, a2)) from ((RM.out.set k hk (b1, b2)).set j (by simpa using hj) (a1, a2)).move rfl)
      have O2 := Aside0.mk (show Only (fun k => k = b) W ((((wr.setCell ⟨b, k * 2, none⟩ (.int .i64 b1)).setCell ⟨b, k * 2 + 1, none⟩ (.int .i64 b2)).setCell ⟨b, j * 2, none⟩ (.int .i64 a1)).setCell ⟨b, j * 2 + 1, none⟩ (.int .i64 a2)).drew from ((((OO.out.setCell (ad := ⟨b, k * 2, none⟩) rfl (.int .i64 b1)).setCell (ad := ⟨b, k * 2 + 1, none⟩) rfl (.int .i64 b2)).setCell (ad := ⟨b, j * 2, none⟩) rfl (.int .i64 a1)).setCell (ad := ⟨b, j * 2 + 1, none⟩) rfl (.int .i64 a2)).drew)
      have HK := Aside0.mk (And.intro hk hj)
      have HA := Aside0.mk (show m[k]? = some (a1, a2) ∧ m[j]? = some (b1, b2) from ⟨by rw [List.getElem?_eq_getElem hk, ha], by rw [List.getElem?_eq_getElem hj, hb]⟩)
      clear hk hj ha hb
      go_upto_region 3 with fail
      go_region
      generalize ((((wr.setCell ⟨b, k * 2, none⟩ (.int .i64 b1)).setCell ⟨b, k * 2 + 1, none⟩ (.int .i64 b2)).setCell ⟨b, j * 2, none⟩ (.int .i64 a1)).setCell ⟨b, j * 2 + 1, none⟩ (.int .i64 a2)).drew = W2 at R2 O2 ⊢
      clear k1 k2 j1 j2 z1 z2 z3 z4 n1 n2 n3 n4 n5 n6 n7 n8
      go_wp2
      go_roundg (j - (k + 1))
      case measure => omega
      case rel =>
        refine ⟨k + 1, j - 1, (m.set k (b1, b2)).set j (a1, a2), by simp, by congr 1; omega, by omega, by omega, by omega, R2, ⟨by simpa using ML.out⟩, ⟨fun t ht => ?_⟩, O2⟩
        have hm := ML.out
        have hk := HK.out.1
        have hj := HK.out.2
        have e0 := EL.out t ht
        rw [List.getElem?_set, List.getElem?_set]
        by_cases q1 : j = t
        · subst q1
          rw [if_pos rfl, if_pos (by simpa using hj), if_pos (by omega)]
          have := EL.out k (by omega)
          rw [if_neg (by omega), HA.out.1] at this
          rw [this]
          congr 1; omega
        · rw [if_neg q1]
          by_cases q2 : k = t
          · subst q2
            rw [if_pos rfl, if_pos hk, if_pos (by omega)]
            have := EL.out j (by omega)
            rw [if_neg (by omega), HA.out.2] at this
            rw [this]
            congr 1; omega
          · rw [if_neg q2, e0]
            by_cases q3 : t < k ∨ j < t
            · rw [if_pos q3, if_pos (by omega)]
            · rw [if_neg q3, if_neg (by omega)]
    · have hRev : m = l.reverse := by
        apply List.ext_getElem?
        intro t
        by_cases ht : t < n
        · rw [List.getElem?_reverse (by have := HN.out; omega), EL.out t ht, HN.out]
          by_cases q : t < k ∨ j < t
          · rw [if_pos q]
          · rw [if_neg q, show n - 1 - t = t by omega]
        · rw [List.getElem?_eq_none (by have := ML.out; omega), List.getElem?_eq_none (by have := HN.out; simp; omega)]
      have RM' := Aside0.mk (show RowAt wr b 0 c l.reverse from hRev ▸ RM.out)
      clear hRev RM EL ML
      go_wp2
      go_end0
      exact ⟨⟨_, rfl⟩, RM'.out, OO.out⟩

set_option maxHeartbeats 4000000 in
theorem reverse_none (W : World) (A : Option Addr) (c : Nat) :
    Calls Try.prog 21 #[.slice A 0 c] W fun e w' => (∃ v, e = .returned v) ∧ w' = W := by
  go_enter Try.func21, Try.ntmps21
  go_wp2
  go_loopg [2, 3] 1 (fun gg v2 v3 wr => v2 = .int .i64 0 ∧ v3 = .int .i64 (-1) ∧ wr = W)
  case atStart => exact ⟨rfl, rfl, rfl⟩
  case round =>
    obtain ⟨rfl, rfl, rfl⟩ := hrel
    go_wp2
    go_end0
    exact ⟨⟨_, rfl⟩, rfl⟩

set_option maxHeartbeats 4000000 in
set_option maxRecDepth 100000 in
theorem spans_calls {W : World} {sb : Nat} {A : Option Addr} {c : Nat} {f : Int} {l : List Spn} (hS : St W sb A c f l) (hz : A = none ∨ 0 < l.length) (hl : l.length ≤ 1000) :
    Calls Try.prog 8 #[.pointer (some ⟨sb, 0, none⟩)] W (Made W l.reverse) := by
  have HC := Aside0.mk (clone_calls hS.row hz hl)
  have c0 := hS.cells.1
  obtain ⟨n, hn⟩ : ∃ n, l.length = n := ⟨_, rfl⟩
  have HN := Aside0.mk hn
  rw [hn] at HC c0
  have HZ := Aside0.mk (show n ≤ 1000 by omega)
  clear hS hz hl hn
  have HR := Aside0.mk (fun (W1 : World) (A' : Option Addr) (c' : Nat) (h : Row W1 A' c' l) (hA : A' = none ∨ ∃ b, A' = some ⟨b, 0, none⟩ ∧ W.heap.size ≤ b) (hb : Below W.heap.size W W1) =>
    show Calls Try.prog 21 #[.slice A' n c'] W1 fun e w' => (∃ v, e = .returned v) ∧ Row w' A' c' l.reverse ∧ Below W.heap.size W w' from by
      by_cases hp : 0 < l.length
      · rcases hA with rfl | ⟨b, rfl, hB⟩
        · rcases h with ⟨_, rfl, rfl⟩ | ⟨b, off, e, _⟩
          · simp at hp
          · cases e
        · rcases h with ⟨e, _⟩ | ⟨b', off, e, h⟩
          · cases e
          · injection e with e
            injection e with e1 e2
            subst e1 e2
            have := reverse_calls h hp (by have := HN.out; have := HZ.out; omega)
            rw [HN.out] at this
            exact this.mono fun e w' ⟨h1, h2, h3⟩ => ⟨h1, .inr ⟨b, 0, rfl, h2⟩, hb.trans (h3.below hb.size (fun k q => by omega))⟩
      · have hln := List.eq_nil_of_length_eq_zero (show l.length = 0 by omega)
        have hn0 : n = 0 := by have := HN.out; omega
        subst hn0
        exact (reverse_none W1 A' c').mono fun e w' ⟨h1, h2⟩ => by
          subst h2
          refine ⟨h1, ?_, hb⟩
          rw [hln] at h ⊢
          exact h)
  go_enter Try.func8, Try.ntmps8
  go_wp2_with (first
    | (go_at_call 20; refine HC.out.mono ?_; rintro e w1 ⟨A', c', rfl, hr, ha, hb⟩; have HR1 := Aside0.mk (HR.out w1 A' c' hr ha hb); have HA := Aside0.mk ha; clear hr ha hb; simp only [HN.out])
    | (go_at_call 21; refine HR1.out.mono ?_; rintro e w2 ⟨⟨v, rfl⟩, hr, hb⟩; have HR2 := Aside0.mk hr; have HB2 := Aside0.mk hb; clear hr hb))
  go_ret
  exact ⟨A', c', by simp [HN.out], HR2.out, HA.out, HB2.out⟩
end Go.Proofs.Ytpihkmpcnkhnfaa.Sp
