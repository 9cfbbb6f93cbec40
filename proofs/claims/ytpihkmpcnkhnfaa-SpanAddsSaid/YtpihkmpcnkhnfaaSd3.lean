/- The document's set, walked: Add. -/
import Derived.Test.YtpihkmpcnkhnfaaSd2
namespace Go.Proofs.Ytpihkmpcnkhnfaa.Sp
open Go Go.RowKit Go.Lib Go.Proofs.YtpihkmpcnkhnfaaW.PrintWords Go.Proofs.YtpihkmpcnkhnfaaW.PrintLast Go.Proofs.YtpihkmpcnkhnfaaW.PrintMore
open Go.Proofs.Ytpihkmpcnkhnfaa.Onl (Only)
set_option linter.unusedVariables false
set_option linter.unusedSimpArgs false

theorem info_int : (Try.prog.info? 3).map (fun i => (i.zero, i.size, i.bytes)) = some (some (.int .i64 0), 1, 8) := by kernel_rfl
/-- What adding leaves. -/
def DAdded (W : World) (db : Nat) (A : Option Addr) (L : List Int) (f x : Int) (e : Ending) (W' : World) : Prop :=
  ∃ A' c', e = .returned (.bool (docAdd L f x).1) ∧ Dt W' db A' c' (docAdd L f x).2.2 (docAdd L f x).2.1 ∧ Only (fun k => k = db) W W' ∧ (A' = A ∨ ∀ a, A' = some a → W.heap.size ≤ a.block)

set_option maxHeartbeats 4000000 in
set_option maxRecDepth 100000 in
/-- What may not be added is not. -/
theorem dadd_no {W : World} {db : Nat} {A : Option Addr} {c : Nat} {f x : Int} {L : List Int} (hD : Dt W db A c f L) (hl : L.length ≤ 1000) (hm : ¬ ((0 ≤ x ∧ x ≤ 4611686018427387903) ∧ f ≤ x ∧ x ∉ L)) :
    Calls Try.prog 10 #[.pointer (some ⟨db, 0, none⟩), .int .i64 x] W (DAdded W db A L f x) := by
  have HH := Aside0.mk (dhas_calls (x := x) hD hl)
  have hadd : docAdd L f x = (false, L, f) := by unfold docAdd; rw [if_neg hm]
  have HP := Aside0.mk (show DAdded W db A L f x (.returned (.bool false)) W from ⟨A, c, by rw [hadd], by rw [hadd]; exact hD, Only.refl _ _, .inl rfl⟩)
  have c1 := hD.cells.2
  clear hadd
  by_cases h1 : x < 0
  · have q1 : decide (x < 0) = true := decide_eq_true h1
    clear hD hl hm h1
    go_enter Try.func10, Try.ntmps10
    go_wp2
    go_ret
    exact HP.out
  have q1 : decide (x < 0) = false := decide_eq_false h1
  by_cases h2 : 4611686018427387903 < x
  · have q2 : decide (4611686018427387903 < x) = true := decide_eq_true h2
    clear hD hl hm h1 h2
    go_enter Try.func10, Try.ntmps10
    go_wp2
    go_ret
    exact HP.out
  have q2 : decide (4611686018427387903 < x) = false := decide_eq_false h2
  by_cases h3 : x < f
  · have q3 : decide (x < f) = true := decide_eq_true h3
    clear hD hl hm h1 h2 h3
    go_enter Try.func10, Try.ntmps10
    go_wp2
    go_ret
    exact HP.out
  have q3 : decide (x < f) = false := decide_eq_false h3
  have hin : x ∈ L := Classical.byContradiction fun q => hm ⟨by omega, by omega, q⟩
  rw [decide_eq_true hin] at HH
  clear hD hl hm h1 h2 h3 hin
  go_enter Try.func10, Try.ntmps10
  go_wp2_with (go_at_call 15; refine HH.out.mono ?_; rintro e w1 ⟨rfl, rfl⟩)
  go_ret
  exact HP.out

theorem srt_le : ∀ {L : List Int} {lo : Int}, Srt lo L → ∀ i j (hi : i < L.length) (hj : j < L.length), i ≤ j → L[i] ≤ L[j]
  | [], _, _, i, _, hi, _, _ => absurd hi (Nat.not_lt_zero _)
  | y :: L, lo, ⟨h1, h2, h3⟩, i, j, hi, hj, hij => by
    cases i with
    | zero =>
      cases j with
      | zero => exact Int.le_refl _
      | succ j =>
        have := (srt_low h3 (List.getElem_mem (by simpa using hj : j < L.length))).1
        simp only [List.getElem_cons_zero, List.getElem_cons_succ]
        omega
    | succ i =>
      cases j with
      | zero => omega
      | succ j => exact srt_le h3 i j (by simpa using hi) (by simpa using hj) (by omega)
theorem own_lo {w : World} {e base : Nat} {ok : Nat → Prop} {A : Option Addr} {n c : Nat} {l : List Int} (h : Kd.R (Kd.int .i64) e w base ok (.slice A n c) l) : ∀ a, A = some a → base ≤ a.block ∧ a.block < w.heap.size := by
  intro a e
  subst e
  obtain ⟨inner, ho⟩ := Kd.R_own h
  exact ho.lt a.block rfl
/-- The new row stands in the struct. -/
theorem dt_store {W w9 : World} {db : Nat} {A A9 : Option Addr} {c c9 : Nat} {f : Int} {L L' : List Int} {ok : Nat → Prop} (hD : Dt W db A c f L) (hb : Below W.heap.size W w9) (hr : Kd.R (Kd.int .i64) 3 w9 W.heap.size ok (.slice A9 L'.length c9) L') :
    Dt (w9.setCell ⟨db, 0, none⟩ (.slice A9 L'.length c9)) db A9 c9 f L' ∧ Only (fun k => k = db) W (w9.setCell ⟨db, 0, none⟩ (.slice A9 L'.length c9)) ∧ (∀ a, A9 = some a → W.heap.size ≤ a.block) := by
  have h9 := (hD.below hb).hp
  have lo := own_lo hr
  have hdb := hD.lt
  obtain ⟨_, hle, hC⟩ := Kd.R_reads' hr
  have ho : Only (fun k => k = db) w9 (w9.setCell ⟨db, 0, none⟩ (.slice A9 L'.length c9)) := Only.setCell (p := fun k => k = db) (Only.refl _ _) (ad := ⟨db, 0, none⟩) rfl _
  refine ⟨⟨?_, ho.reads hC (fun a e q => by have := (lo a e).1; omega), hle, fun a e => ⟨fun q => by have := (lo a e).1; omega, Nat.lt_of_lt_of_le (lo a e).2 ho.size⟩⟩, (Only.of_below hb).trans ho, fun a e => (lo a e).1⟩
  rw [heap_setCell_at h9]; rfl

/-- The floor is set, the lowest span lies in a box. -/
theorem dt_floor {W : World} {db : Nat} {A : Option Addr} {c : Nat} {f : Int} {L : List Int} (hD : Dt W db A c f L) (s1 s2 f' : Int) :
    Dt ((W.alloc (.cells #[.int .i64 s1, .int .i64 s2] 53)).setCell ⟨db, 1, none⟩ (.int .i64 f')) db A c f' L ∧ Only (fun k => k = db) W ((W.alloc (.cells #[.int .i64 s1, .int .i64 s2] 53)).setCell ⟨db, 1, none⟩ (.int .i64 f')) ∧
    (((W.alloc (.cells #[.int .i64 s1, .int .i64 s2] 53)).setCell ⟨db, 1, none⟩ (.int .i64 f')).cell? ⟨W.heap.size, 0, none⟩ = some (.int .i64 s1) ∧ ((W.alloc (.cells #[.int .i64 s1, .int .i64 s2] 53)).setCell ⟨db, 1, none⟩ (.int .i64 f')).cell? ⟨W.heap.size, 1, none⟩ = some (.int .i64 s2)) ∧ True := by
  have hlt := hD.lt
  have hB := below_alloc (Below.refl W.heap.size W) (.cells #[.int .i64 s1, .int .i64 s2] 53)
  have D1 := hD.below hB
  have hn := alloc_at W (.cells #[.int .i64 s1, .int .i64 s2] 53)
  generalize W.alloc (.cells #[.int .i64 s1, .int .i64 s2] 53) = W1 at *
  have ho : Only (fun k => k = db) W1 (W1.setCell ⟨db, 1, none⟩ (.int .i64 f')) := Only.setCell (p := fun k => k = db) (Only.refl _ _) (ad := ⟨db, 1, none⟩) rfl _
  have hn2 : (W1.setCell ⟨db, 1, none⟩ (.int .i64 f')).heap[W.heap.size]? = some (.cells #[.int .i64 s1, .int .i64 s2] 53 (0, 0)) := (Below.heap_setCell _ _ _ _ (by show W.heap.size ≠ db; omega)).trans hn
  refine ⟨⟨?_, ho.reads D1.row (fun a e q => (D1.ne a e).1 q), D1.le, fun a e => ⟨(D1.ne a e).1, Nat.lt_of_lt_of_le (D1.ne a e).2 ho.size⟩⟩, (Only.of_below hB).trans ho, ⟨(cell_of hn2 0).trans rfl, (cell_of hn2 1).trans rfl⟩, trivial⟩
  rw [heap_setCell_at D1.hp]; rfl
/-- The lowest are cut off. -/
theorem dt_cut {W : World} {db : Nat} {ad : Addr} {c : Nat} {f : Int} {L : List Int} (hD : Dt W db (some ad) c f L) {d : Nat} (hd : d < L.length) (hc : ¬ c = d) :
    Dt (W.setCell ⟨db, 0, none⟩ (.slice (some (ad.add d)) (L.length - d) (c - d))) db (some (ad.add d)) (c - d) f (L.drop d) ∧ Only (fun k => k = db) W (W.setCell ⟨db, 0, none⟩ (.slice (some (ad.add d)) (L.length - d) (c - d))) := by
  have ho : Only (fun k => k = db) W (W.setCell ⟨db, 0, none⟩ (.slice (some (ad.add d)) (L.length - d) (c - d))) := Only.setCell (p := fun k => k = db) (Only.refl _ _) (ad := ⟨db, 0, none⟩) rfl _
  have hb : ∀ a, some (ad.add d) = some a → a.block = ad.block := fun a e => by
    injection e with e; rw [← e]; unfold Addr.add; split <;> rfl
  have h := Kd.C_drop (m := d) hD.row (Nat.le_of_lt hd) hD.le
  rw [if_neg hc, show d * (Kd.int .i64).sz = d from Nat.mul_one d] at h
  refine ⟨⟨?_, ho.reads h (fun a e q => (hD.ne ad rfl).1 (by rw [← hb a e]; exact q)), by rw [List.length_drop]; have := hD.le; omega, fun a e => ?_⟩, ho⟩
  · rw [heap_setCell_at hD.hp, List.length_drop]; rfl
  · rw [hb a e]; exact ⟨(hD.ne ad rfl).1, Nat.lt_of_lt_of_le (hD.ne ad rfl).2 ho.size⟩

set_option maxHeartbeats 4000000 in
set_option maxRecDepth 100000 in
theorem dadd_yes {W : World} {db : Nat} {A : Option Addr} {c : Nat} {f x : Int} {L : List Int} (hD : Dt W db A c f L) (hs : Srt (-1) L) (hl : L.length ≤ 900) (hm : (0 ≤ x ∧ x ≤ 4611686018427387903) ∧ f ≤ x ∧ x ∉ L) :
    Calls Try.prog 10 #[.pointer (some ⟨db, 0, none⟩), .int .i64 x] W (DAdded W db A L f x) := by
  have HH := dhas_calls (x := x) hD (by omega)
  rw [decide_eq_false hm.2.2] at HH
  have HH := Aside0.mk HH
  have D := Aside0.mk hD
  have HS := Aside0.mk hs
  have HM := Aside0.mk hm
  obtain ⟨n, hn⟩ : ∃ n, L.length = n := ⟨_, rfl⟩
  have HN := Aside0.mk hn
  have c0 := hD.cells.1
  have c1 := hD.cells.2
  rw [hn] at c0 hl
  have q1 : decide (x < 0) = false := decide_eq_false (by omega)
  have q2 : decide (4611686018427387903 < x) = false := decide_eq_false (by omega)
  have q3 : decide (x < f) = false := decide_eq_false (by omega)
  clear hD hs hm hn
  go_enter Try.func10, Try.ntmps10
  go_wp2_with (go_at_call 15; refine HH.out.mono ?_; rintro e w1 ⟨rfl, rfl⟩)
  go_loopg [5] n (fun gg v5 wr => ∃ k : Nat, v5 = .int .i64 (k : Int) ∧ k ≤ n ∧ k ≤ gg ∧ Aside0 (∀ j (h : j < L.length), k ≤ j → x < L[j]) ∧ wr = w1)
  case atStart => exact ⟨n, rfl, by omega, by omega, ⟨fun j h hj => by have := HN.out; omega⟩, rfl⟩
  case round =>
    obtain ⟨k, rfl, hk, hg, G, rfl⟩ := hrel
    by_cases hpos : 0 < k
    · have hk1 : k - 1 < L.length := by rw [HN.out]; omega
      obtain ⟨ad, eA, hc⟩ := D.out.at_ (k - 1) hk1
      obtain ⟨y, hy⟩ : ∃ y, L[k - 1] = y := ⟨_, rfl⟩
      have HY := Aside0.mk hy
      rw [hy] at hc
      have g1 : decide (0 < (k : Int)) = true := decide_eq_true (by omega)
      have g2 : decide (0 < k) = true := decide_eq_true hpos
      have hlow := srt_low HS.out (List.getElem_mem hk1)
      rw [hy] at hlow
      clear hy
      by_cases hxy : x < y
      · have g3 : decide (x < y) = true := decide_eq_true hxy
        have HXY := Aside0.mk hxy
        subst eA
        clear hxy
        go_wp2
        go_roundg (k - 1)
        case measure => omega
        case rel => exact ⟨k - 1, by first | rfl | (congr 1; omega), by omega, by omega, ⟨fun j h hj => by
          rcases Nat.lt_or_ge j k with q | q
          · obtain rfl : j = k - 1 := by omega
            rw [HY.out]; exact HXY.out
          · exact G.out j h q⟩, rfl⟩
      · have g3 : decide (x < y) = false := decide_eq_false hxy
        have LEK := Aside0.mk (show ∀ j (h : j < L.length), j < k → L[j] ≤ x from fun j h hj => by
          have h1 := srt_le HS.out j (k - 1) h hk1 (by omega)
          rw [HY.out] at h1; omega)
        subst eA
        clear hlow HY hxy hk1
        have ES := Aside0.mk (dins_at (n := x) k (by rw [HN.out]; exact hk) LEK.out G.out)
        have KT := Aside0.mk (Kd.C_take (m := k) D.out.row (by rw [HN.out]; exact hk))
        have KD := Aside0.mk (Kd.C_drop (m := k) D.out.row (by rw [HN.out]; exact hk) D.out.le)
        have KL := Aside0.mk (show (L.take k).length ≤ n by rw [List.length_take, HN.out]; omega)
        have LB := Aside0.mk (show n ≤ 900 ∧ k ≤ n from ⟨hl, hk⟩)
        have hkc : k ≤ c := Nat.le_trans hk (by have := D.out.le; rw [HN.out] at this; exact this)
        have ekl : (L.take k).length = k := by rw [List.length_take, HN.out]; omega
        rw [ekl] at KT
        have ekd : (L.drop k).length = n - k := by rw [List.length_drop, HN.out]
        rw [ekd] at KD
        replace KD : Aside0 (Kd.C (Kd.int .i64) wr (if c = k then some ad else some (ad.add k)) (n - k) (L.drop k)) := ⟨by
          have h := KD.out
          by_cases hck : c = k
          · rw [if_pos hck] at h ⊢; exact h
          · rw [if_neg hck] at h ⊢; rw [show k * (Kd.int .i64).sz = k from Nat.mul_one k] at h; exact h⟩
        have ND := Aside0.mk (show (dins x L).length = n + 1 by rw [dins_len, HN.out])
        have HS9 := Aside0.mk (dins_srt HS.out (by have := HM.out.1; omega) HM.out.1.2 HM.out.2.2)
        obtain ⟨m, hm9⟩ : ∃ m, (spn (dins x L)).reverse.length = m := ⟨_, rfl⟩
        have HM9 := Aside0.mk hm9
        clear hm9 ekl ekd
        by_cases h32 : 32 < m
        · have h32z : decide ((32 : Int) < (m : Int)) = true := decide_eq_true (by omega)
          have h32n : decide (32 < m) = true := decide_eq_true h32
          have H32 := Aside0.mk h32
          have mb : m ≤ 1000 := by have := spn_len (dins x L); rw [ND.out, ← List.length_reverse, HM9.out] at this; omega
          have mp : 0 < m := by omega
          obtain ⟨s1, s2, rr, hsr⟩ : ∃ s1 s2 rr, spn (dins x L) = (s1, s2) :: rr := by
            rcases hq : spn (dins x L) with _ | ⟨s, rr⟩
            · have h := HM9.out; rw [hq] at h; simp at h; omega
            · exact ⟨s.1, s.2, rr, rfl⟩
          have HSR := Aside0.mk hsr
          have LAST := Aside0.mk (show ∀ (h : m - 1 < (spn (dins x L)).reverse.length), (spn (dins x L)).reverse[m - 1] = (s1, s2) from fun h => by
            have hml : (spn (dins x L)).length = m := by rw [← List.length_reverse, HM9.out]
            rw [List.getElem_reverse]
            simp only [hml, show m - 1 - (m - 1) = 0 by omega]
            simp [hsr])
          have hsb := gd_mem (spn_gd HS9.out) (s1, s2) (by rw [hsr]; exact List.mem_cons_self)
          have hsb1 : -1 < s1 := hsb.1
          have hsb2 : s1 ≤ s2 := hsb.2.1
          have hsb3 : s2 ≤ 4611686018427387903 := hsb.2.2
          clear hsr hsb h32
          obtain ⟨d, hd⟩ : ∃ d : Nat, s2 - s1 + 1 = (d : Int) := ⟨(s2 - s1 + 1).toNat, by omega⟩
          have hdn : d < n + 1 := by
            have h1 := spn_drop HS9.out HSR.out
            have e : ((s1, s2).2 - (s1, s2).1 + 1).toNat = d := by show (s2 - s1 + 1).toNat = d; omega
            rw [e] at h1
            rcases Nat.lt_or_ge d (n + 1) with q | q
            · exact q
            · rw [List.drop_eq_nil_of_le (by rw [ND.out]; exact q)] at h1
              have h2 : (spn (dins x L)).length = m := by rw [← List.length_reverse, HM9.out]
              rw [HSR.out, ← h1] at h2
              have := H32.out
              simp [spn] at h2; omega
          have HP := Aside0.mk (show ∀ (ad9 : Addr) (c9 : Nat) V, Dt V db (some (ad9.add d)) (c9 - d) (s2 + 1) ((dins x L).drop d) → Only (fun k => k = db) wr V → wr.heap.size ≤ ad9.block → DAdded wr db (some ad) L f x (.returned (.bool true)) V from fun ad9 c9 V h1 h2 h3 => by
            have e : docAdd L f x = (true, (dins x L).drop d, s2 + 1) := by
              unfold docAdd
              rw [if_pos HM.out, if_pos (by rw [← List.length_reverse, HM9.out]; exact H32.out), HSR.out]
              show (true, (dins x L).drop (s2 - s1 + 1).toNat, s2 + 1) = _
              rw [show (s2 - s1 + 1).toNat = d by omega]
            refine ⟨_, _, by rw [e], by rw [e]; exact h1, h2, .inr (fun a ha => ?_)⟩
            injection ha with ha
            rw [← ha]
            unfold Addr.add; split <;> exact h3)
          go_wp2_with (first
            | ((with_reducible refine gate_dst (N := 49) rfl ?_); refine Kd.R_lit (Kd.int .i64) wr.heap.size 3 ?hg (N := 49) ?hd (xs := ([] : List Int)) (inner := []) (ok := fun _ => True) (okp := fun _ => True) ?hr ?hp (fun _ hk => hk) trivial (Below.refl _ _) (Nat.le_refl _) (by simp) ?_; (case hd => rfl); (case hg => rfl); (case hr => first | (go_simp; done) | (go_simp; rfl)); (case hp => exact (Reps.none _ _)); intro v6 w6 ho6 hb6 hg_ hnew_; have c6 := (D.out.below hb6).cells.1; rw [HN.out] at c6; clear hg_ hnew_; have O6 := Aside0.mk ho6; have B6 := Aside0.mk hb6; clear ho6 hb6)
            | ((with_reducible refine gate_builtin (b := .append) (xs := #[.tmp 49, .tmp 55]) rfl ?_); at_builtin; refine Kd.R_append_rows (Kd.int .i64) (w0 := wr) wr.heap.size rfl (.tmp 49) (.tmp 55) 22 3 (.int .i64 0) 8 rfl Try.underlying22 info_int rfl (by decide) (by omega) v6 ([] : List Int) (L.take k) _ _ _ (fun _ => True) (fun _ => False) rfl rfl ?aO ?aR (fun _ _ h => h) (fun _ h => h.elim) ?aF ?aB ?aS ?aL ?_; (case aR => exact (Kd.C_below KT.out B6.out)); (case aB => exact B6.out); (case aF => exact fun _ _ => trivial); (case aO => exact O6.out); (case aS => exact below_size B6.out); (case aL => have := LB.out; simp only [List.length_nil]; omega); intro v7 w7 ho7 hb7 hg7 hat7; clear hg7 hat7; rw [List.nil_append] at ho7; have O7 := Aside0.mk ho7; have B7 := Aside0.mk hb7; clear ho7 hb7 O6 B6)
            | ((with_reducible refine gate_builtin (b := .append) (xs := #[.tmp 56, .tmp 58]) rfl ?_); at_builtin; refine Kd.R_append (Kd.int .i64) (w0 := wr) wr.heap.size rfl (.tmp 56) (.tmp 58) 22 3 (.int .i64 0) 8 rfl Try.underlying22 info_int rfl (by decide) (by omega) v7 (L.take k) x [.int .i64 x] (fun _ => True) (fun _ => False) rfl rfl rfl (fun _ hk => hk.elim) (fun _ _ => trivial) O7.out B7.out B7.out.size (by have := LB.out; have := KL.out; omega) ?_; intro v8 w8 ho8 hb8 hg8 hat8; clear hg8 hat8; have c8 := (D.out.below hb8).cells.1; rw [HN.out] at c8; have O8 := Aside0.mk ho8; have B8 := Aside0.mk hb8; clear ho8 hb8 O7 B7)
            | ((with_reducible refine gate_builtin (b := .append) (xs := #[.tmp 61, .tmp 67]) rfl ?_); at_builtin; refine Kd.R_append_rows (Kd.int .i64) (w0 := wr) wr.heap.size rfl (.tmp 61) (.tmp 67) 22 3 (.int .i64 0) 8 rfl Try.underlying22 info_int rfl (by decide) (by omega) v8 (L.take k ++ [x]) (L.drop k) _ _ _ (fun _ => True) (fun _ => False) rfl rfl ?aO ?aR (fun _ _ h => h) (fun _ h => h.elim) ?aF ?aB ?aS ?aL ?_; (case aR => exact Kd.C_below KD.out B8.out); (case aB => exact B8.out); (case aF => exact fun _ _ => trivial); (case aO => exact O8.out); (case aS => exact below_size B8.out); (case aL => have := LB.out; have := KL.out; simp only [List.length_append, List.length_cons, List.length_nil]; omega); intro v9 w9 ho9 hb9 hg9 hat9; clear hg9 hat9; rw [List.append_assoc, List.singleton_append, ES.out] at ho9; obtain ⟨A9, c9, e9⟩ := Kd.R_slice ho9; rw [ND.out] at e9; subst e9; have c9_ := (D.out.below hb9).cells.1; rw [HN.out] at c9_; have f9_ := frozen_of (D.out.below hb9).hp 0; rw [← ND.out] at ho9; have D9 := dt_store D.out hb9 ho9; rw [ND.out] at D9; have D9 := Aside0.mk D9; clear ho9 hb9 O8 B8)
            | (go_at_call 12; refine (dspans_calls D9.out.1 HS9.out (by rw [ND.out]; have := LB.out; omega)).mono ?_; rintro e10 w10 ⟨A10, c10, rfl, hR, hA, hb⟩; simp only [HM9.out]; have R10 := Aside0.mk hR; have D10 := Aside0.mk (D9.out.1.below hb); have O10 := Aside0.mk (D9.out.2.1.trans (Only.of_below hb)); obtain ⟨b10, off10, e10_, x1, x2⟩ := hR.get (m - 1) (by rw [HM9.out]; omega); subst e10_; rw [LAST.out] at x1 x2; have y1 : (w10.alloc (.cells #[.int .i64 s1, .int .i64 s2] 53)).cell? ⟨db, 1, none⟩ = some (.int .i64 f) := (World.cell?_alloc_lt _ _ _ D10.out.lt).trans D10.out.cells.2; have y2 : (w10.alloc (.cells #[.int .i64 s1, .int .i64 s2] 53)).frozen? ⟨db, 1, none⟩ = false := (World.frozen?_of_block (a := ⟨db, 1, none⟩) (Below.heap_alloc _ _ _ D10.out.lt)).trans (frozen_of D10.out.hp 1); clear hR hA hb))
          all_goals
            obtain ⟨ad9, e9_, _⟩ := D10.out.at_ 0 (by rw [ND.out]; omega)
            subst e9_
            have LO9 := Aside0.mk (D9.out.2.2 ad9 rfl)
            have V := dt_floor D10.out s1 s2 (s2 + 1)
            have hle9 := D10.out.le
            rw [ND.out] at hle9
            have hdc : ¬ c9 = d := by omega
            have O11 := Aside0.mk (O10.out.trans V.2.1)
            have V1 := V.1
            have v0 := V.2.2.1.1
            have v1 := V.2.2.1.2
            have CUT := Aside0.mk (dt_cut V1 (d := d) (by rw [ND.out]; omega) (by omega))
            have e0 := (cell_of V1.hp 0).trans rfl
            have e1 := frozen_of V1.hp 0
            rw [ND.out] at e0 CUT
            have k1 : IntKind.i64.wrap (s2 - s1) = s2 - s1 := w64' (by omega)
            have k2 : IntKind.i64.wrap (s2 - s1 + 1) = (d : Int) := (w64' (by omega)).trans hd
            have hdn' : d ≤ n + 1 := by omega
            have hdz : (d : Int) ≤ (n : Int) + 1 := by omega
            have hfm : Try.prog.follows .mixedOrders = true := by kernel_rfl
            clear V V1 x1 x2 y1 y2 hd hdn hsb1 hsb2 hsb3
            generalize (w10.alloc (.cells #[.int .i64 s1, .int .i64 s2] 53)).setCell ⟨db, 1, none⟩ (.int .i64 (s2 + 1)) = V at *
            generalize w10.heap.size = lb at *
            have FIN := Aside0.mk (HP.out ad9 c9 _ (CUT.out.1.below (below_drew (Below.refl _ _))) ((O11.out.trans CUT.out.2).drew) LO9.out)
            clear CUT O11 HP
            go_region_law_o (fail)
            all_goals
              clear v0 v1 e0 e1 k1 k2 hdn' hdz hfm
              go_wp2
              go_ret
              exact FIN.out
        · have h32z : decide ((32 : Int) < (m : Int)) = false := decide_eq_false (by omega)
          have h32n : decide (32 < m) = false := decide_eq_false h32
          have HP := Aside0.mk (show ∀ A9 c9 w10, Dt w10 db A9 c9 f (dins x L) → Only (fun k => k = db) wr w10 → (∀ a, A9 = some a → wr.heap.size ≤ a.block) → DAdded wr db (some ad) L f x (.returned (.bool true)) w10 from fun A9 c9 w10 h1 h2 h3 => by
            have e : docAdd L f x = (true, dins x L, f) := by
              unfold docAdd
              rw [if_pos HM.out, if_neg (by rw [← List.length_reverse, HM9.out]; exact h32)]
            exact ⟨A9, c9, by rw [e], by rw [e]; exact h1, h2, .inr h3⟩)
          clear h32
          go_wp2_with (first
            | ((with_reducible refine gate_dst (N := 49) rfl ?_); refine Kd.R_lit (Kd.int .i64) wr.heap.size 3 ?hg (N := 49) ?hd (xs := ([] : List Int)) (inner := []) (ok := fun _ => True) (okp := fun _ => True) ?hr ?hp (fun _ hk => hk) trivial (Below.refl _ _) (Nat.le_refl _) (by simp) ?_; (case hd => rfl); (case hg => rfl); (case hr => first | (go_simp; done) | (go_simp; rfl)); (case hp => exact (Reps.none _ _)); intro v6 w6 ho6 hb6 hg_ hnew_; have c6 := (D.out.below hb6).cells.1; rw [HN.out] at c6; clear hg_ hnew_; have O6 := Aside0.mk ho6; have B6 := Aside0.mk hb6; clear ho6 hb6)
            | ((with_reducible refine gate_builtin (b := .append) (xs := #[.tmp 49, .tmp 55]) rfl ?_); at_builtin; refine Kd.R_append_rows (Kd.int .i64) (w0 := wr) wr.heap.size rfl (.tmp 49) (.tmp 55) 22 3 (.int .i64 0) 8 rfl Try.underlying22 info_int rfl (by decide) (by omega) v6 ([] : List Int) (L.take k) _ _ _ (fun _ => True) (fun _ => False) rfl rfl ?aO ?aR (fun _ _ h => h) (fun _ h => h.elim) ?aF ?aB ?aS ?aL ?_; (case aR => exact (Kd.C_below KT.out B6.out)); (case aB => exact B6.out); (case aF => exact fun _ _ => trivial); (case aO => exact O6.out); (case aS => exact below_size B6.out); (case aL => have := LB.out; simp only [List.length_nil]; omega); intro v7 w7 ho7 hb7 hg7 hat7; clear hg7 hat7; rw [List.nil_append] at ho7; have O7 := Aside0.mk ho7; have B7 := Aside0.mk hb7; clear ho7 hb7 O6 B6)
            | ((with_reducible refine gate_builtin (b := .append) (xs := #[.tmp 56, .tmp 58]) rfl ?_); at_builtin; refine Kd.R_append (Kd.int .i64) (w0 := wr) wr.heap.size rfl (.tmp 56) (.tmp 58) 22 3 (.int .i64 0) 8 rfl Try.underlying22 info_int rfl (by decide) (by omega) v7 (L.take k) x [.int .i64 x] (fun _ => True) (fun _ => False) rfl rfl rfl (fun _ hk => hk.elim) (fun _ _ => trivial) O7.out B7.out B7.out.size (by have := LB.out; have := KL.out; omega) ?_; intro v8 w8 ho8 hb8 hg8 hat8; clear hg8 hat8; have c8 := (D.out.below hb8).cells.1; rw [HN.out] at c8; have O8 := Aside0.mk ho8; have B8 := Aside0.mk hb8; clear ho8 hb8 O7 B7)
            | ((with_reducible refine gate_builtin (b := .append) (xs := #[.tmp 61, .tmp 67]) rfl ?_); at_builtin; refine Kd.R_append_rows (Kd.int .i64) (w0 := wr) wr.heap.size rfl (.tmp 61) (.tmp 67) 22 3 (.int .i64 0) 8 rfl Try.underlying22 info_int rfl (by decide) (by omega) v8 (L.take k ++ [x]) (L.drop k) _ _ _ (fun _ => True) (fun _ => False) rfl rfl ?aO ?aR (fun _ _ h => h) (fun _ h => h.elim) ?aF ?aB ?aS ?aL ?_; (case aR => exact Kd.C_below KD.out B8.out); (case aB => exact B8.out); (case aF => exact fun _ _ => trivial); (case aO => exact O8.out); (case aS => exact below_size B8.out); (case aL => have := LB.out; have := KL.out; simp only [List.length_append, List.length_cons, List.length_nil]; omega); intro v9 w9 ho9 hb9 hg9 hat9; clear hg9 hat9; rw [List.append_assoc, List.singleton_append, ES.out] at ho9; obtain ⟨A9, c9, e9⟩ := Kd.R_slice ho9; rw [ND.out] at e9; subst e9; have c9_ := (D.out.below hb9).cells.1; rw [HN.out] at c9_; have f9_ := frozen_of (D.out.below hb9).hp 0; rw [← ND.out] at ho9; have D9 := dt_store D.out hb9 ho9; rw [ND.out] at D9; have D9 := Aside0.mk D9; clear ho9 hb9 O8 B8)
            | (go_at_call 12; refine (dspans_calls D9.out.1 HS9.out (by rw [ND.out]; have := LB.out; omega)).mono ?_; rintro e10 w10 ⟨A10, c10, rfl, hR, hA, hb⟩; simp only [HM9.out]; have R10 := Aside0.mk hR; have D10 := Aside0.mk (D9.out.1.below hb); have O10 := Aside0.mk (D9.out.2.1.trans (Only.of_below hb)); clear hR hA hb))
          all_goals
            go_ret
            exact HP.out _ _ _ D10.out O10.out D9.out.2.2
    · have HK0 := Aside0.mk (show k = 0 by omega)
      have g1 : decide (0 < (k : Int)) = false := decide_eq_false (by omega)
      have g2 : decide (0 < k) = false := decide_eq_false hpos
      have LEK := Aside0.mk (show ∀ j (h : j < L.length), j < k → L[j] ≤ x from fun j h hj => by have := HK0.out; omega)
      clear hpos
      rcases A with _ | ad
      · skip
        have ES := Aside0.mk (dins_at (n := x) k (by rw [HN.out]; exact hk) LEK.out G.out)
        have KT := Aside0.mk (Kd.C_take (m := k) D.out.row (by rw [HN.out]; exact hk))
        have KD := Aside0.mk (Kd.C_drop (m := k) D.out.row (by rw [HN.out]; exact hk) D.out.le)
        have KL := Aside0.mk (show (L.take k).length ≤ n by rw [List.length_take, HN.out]; omega)
        have LB := Aside0.mk (show n ≤ 900 ∧ k ≤ n from ⟨hl, hk⟩)
        have hkc : k ≤ c := Nat.le_trans hk (by have := D.out.le; rw [HN.out] at this; exact this)
        have ekl : (L.take k).length = k := by rw [List.length_take, HN.out]; omega
        rw [ekl] at KT
        have ekd : (L.drop k).length = n - k := by rw [List.length_drop, HN.out]
        rw [ekd] at KD
        replace KD : Aside0 (Kd.C (Kd.int .i64) wr (none : Option Addr) (n - k) (L.drop k)) := ⟨by
          have h := KD.out
          by_cases hck : c = k
          · rw [if_pos hck] at h; exact h
          · rw [if_neg hck] at h; exact h⟩
        have ND := Aside0.mk (show (dins x L).length = n + 1 by rw [dins_len, HN.out])
        have HS9 := Aside0.mk (dins_srt HS.out (by have := HM.out.1; omega) HM.out.1.2 HM.out.2.2)
        obtain ⟨m, hm9⟩ : ∃ m, (spn (dins x L)).reverse.length = m := ⟨_, rfl⟩
        have HM9 := Aside0.mk hm9
        clear hm9 ekl ekd
        by_cases h32 : 32 < m
        · have h32z : decide ((32 : Int) < (m : Int)) = true := decide_eq_true (by omega)
          have h32n : decide (32 < m) = true := decide_eq_true h32
          have H32 := Aside0.mk h32
          have mb : m ≤ 1000 := by have := spn_len (dins x L); rw [ND.out, ← List.length_reverse, HM9.out] at this; omega
          have mp : 0 < m := by omega
          obtain ⟨s1, s2, rr, hsr⟩ : ∃ s1 s2 rr, spn (dins x L) = (s1, s2) :: rr := by
            rcases hq : spn (dins x L) with _ | ⟨s, rr⟩
            · have h := HM9.out; rw [hq] at h; simp at h; omega
            · exact ⟨s.1, s.2, rr, rfl⟩
          have HSR := Aside0.mk hsr
          have LAST := Aside0.mk (show ∀ (h : m - 1 < (spn (dins x L)).reverse.length), (spn (dins x L)).reverse[m - 1] = (s1, s2) from fun h => by
            have hml : (spn (dins x L)).length = m := by rw [← List.length_reverse, HM9.out]
            rw [List.getElem_reverse]
            simp only [hml, show m - 1 - (m - 1) = 0 by omega]
            simp [hsr])
          have hsb := gd_mem (spn_gd HS9.out) (s1, s2) (by rw [hsr]; exact List.mem_cons_self)
          have hsb1 : -1 < s1 := hsb.1
          have hsb2 : s1 ≤ s2 := hsb.2.1
          have hsb3 : s2 ≤ 4611686018427387903 := hsb.2.2
          clear hsr hsb h32
          obtain ⟨d, hd⟩ : ∃ d : Nat, s2 - s1 + 1 = (d : Int) := ⟨(s2 - s1 + 1).toNat, by omega⟩
          have hdn : d < n + 1 := by
            have h1 := spn_drop HS9.out HSR.out
            have e : ((s1, s2).2 - (s1, s2).1 + 1).toNat = d := by show (s2 - s1 + 1).toNat = d; omega
            rw [e] at h1
            rcases Nat.lt_or_ge d (n + 1) with q | q
            · exact q
            · rw [List.drop_eq_nil_of_le (by rw [ND.out]; exact q)] at h1
              have h2 : (spn (dins x L)).length = m := by rw [← List.length_reverse, HM9.out]
              rw [HSR.out, ← h1] at h2
              have := H32.out
              simp [spn] at h2; omega
          have HP := Aside0.mk (show ∀ (ad9 : Addr) (c9 : Nat) V, Dt V db (some (ad9.add d)) (c9 - d) (s2 + 1) ((dins x L).drop d) → Only (fun k => k = db) wr V → wr.heap.size ≤ ad9.block → DAdded wr db (none : Option Addr) L f x (.returned (.bool true)) V from fun ad9 c9 V h1 h2 h3 => by
            have e : docAdd L f x = (true, (dins x L).drop d, s2 + 1) := by
              unfold docAdd
              rw [if_pos HM.out, if_pos (by rw [← List.length_reverse, HM9.out]; exact H32.out), HSR.out]
              show (true, (dins x L).drop (s2 - s1 + 1).toNat, s2 + 1) = _
              rw [show (s2 - s1 + 1).toNat = d by omega]
            refine ⟨_, _, by rw [e], by rw [e]; exact h1, h2, .inr (fun a ha => ?_)⟩
            injection ha with ha
            rw [← ha]
            unfold Addr.add; split <;> exact h3)
          go_wp2_with (first
            | ((with_reducible refine gate_dst (N := 49) rfl ?_); refine Kd.R_lit (Kd.int .i64) wr.heap.size 3 ?hg (N := 49) ?hd (xs := ([] : List Int)) (inner := []) (ok := fun _ => True) (okp := fun _ => True) ?hr ?hp (fun _ hk => hk) trivial (Below.refl _ _) (Nat.le_refl _) (by simp) ?_; (case hd => rfl); (case hg => rfl); (case hr => first | (go_simp; done) | (go_simp; rfl)); (case hp => exact (Reps.none _ _)); intro v6 w6 ho6 hb6 hg_ hnew_; have c6 := (D.out.below hb6).cells.1; rw [HN.out] at c6; clear hg_ hnew_; have O6 := Aside0.mk ho6; have B6 := Aside0.mk hb6; clear ho6 hb6)
            | ((with_reducible refine gate_builtin (b := .append) (xs := #[.tmp 49, .tmp 55]) rfl ?_); at_builtin; refine Kd.R_append_rows (Kd.int .i64) (w0 := wr) wr.heap.size rfl (.tmp 49) (.tmp 55) 22 3 (.int .i64 0) 8 rfl Try.underlying22 info_int rfl (by decide) (by omega) v6 ([] : List Int) (L.take k) _ _ _ (fun _ => True) (fun _ => False) rfl rfl ?aO ?aR (fun _ _ h => h) (fun _ h => h.elim) ?aF ?aB ?aS ?aL ?_; (case aR => exact (Kd.C_below KT.out B6.out)); (case aB => exact B6.out); (case aF => exact fun _ _ => trivial); (case aO => exact O6.out); (case aS => exact below_size B6.out); (case aL => have := LB.out; simp only [List.length_nil]; omega); intro v7 w7 ho7 hb7 hg7 hat7; clear hg7 hat7; rw [List.nil_append] at ho7; have O7 := Aside0.mk ho7; have B7 := Aside0.mk hb7; clear ho7 hb7 O6 B6)
            | ((with_reducible refine gate_builtin (b := .append) (xs := #[.tmp 56, .tmp 58]) rfl ?_); at_builtin; refine Kd.R_append (Kd.int .i64) (w0 := wr) wr.heap.size rfl (.tmp 56) (.tmp 58) 22 3 (.int .i64 0) 8 rfl Try.underlying22 info_int rfl (by decide) (by omega) v7 (L.take k) x [.int .i64 x] (fun _ => True) (fun _ => False) rfl rfl rfl (fun _ hk => hk.elim) (fun _ _ => trivial) O7.out B7.out B7.out.size (by have := LB.out; have := KL.out; omega) ?_; intro v8 w8 ho8 hb8 hg8 hat8; clear hg8 hat8; have c8 := (D.out.below hb8).cells.1; rw [HN.out] at c8; have O8 := Aside0.mk ho8; have B8 := Aside0.mk hb8; clear ho8 hb8 O7 B7)
            | ((with_reducible refine gate_builtin (b := .append) (xs := #[.tmp 61, .tmp 67]) rfl ?_); at_builtin; refine Kd.R_append_rows (Kd.int .i64) (w0 := wr) wr.heap.size rfl (.tmp 61) (.tmp 67) 22 3 (.int .i64 0) 8 rfl Try.underlying22 info_int rfl (by decide) (by omega) v8 (L.take k ++ [x]) (L.drop k) _ _ _ (fun _ => True) (fun _ => False) rfl rfl ?aO ?aR (fun _ _ h => h) (fun _ h => h.elim) ?aF ?aB ?aS ?aL ?_; (case aR => exact Kd.C_below KD.out B8.out); (case aB => exact B8.out); (case aF => exact fun _ _ => trivial); (case aO => exact O8.out); (case aS => exact below_size B8.out); (case aL => have := LB.out; have := KL.out; simp only [List.length_append, List.length_cons, List.length_nil]; omega); intro v9 w9 ho9 hb9 hg9 hat9; clear hg9 hat9; rw [List.append_assoc, List.singleton_append, ES.out] at ho9; obtain ⟨A9, c9, e9⟩ := Kd.R_slice ho9; rw [ND.out] at e9; subst e9; have c9_ := (D.out.below hb9).cells.1; rw [HN.out] at c9_; have f9_ := frozen_of (D.out.below hb9).hp 0; rw [← ND.out] at ho9; have D9 := dt_store D.out hb9 ho9; rw [ND.out] at D9; have D9 := Aside0.mk D9; clear ho9 hb9 O8 B8)
            | (go_at_call 12; refine (dspans_calls D9.out.1 HS9.out (by rw [ND.out]; have := LB.out; omega)).mono ?_; rintro e10 w10 ⟨A10, c10, rfl, hR, hA, hb⟩; simp only [HM9.out]; have R10 := Aside0.mk hR; have D10 := Aside0.mk (D9.out.1.below hb); have O10 := Aside0.mk (D9.out.2.1.trans (Only.of_below hb)); obtain ⟨b10, off10, e10_, x1, x2⟩ := hR.get (m - 1) (by rw [HM9.out]; omega); subst e10_; rw [LAST.out] at x1 x2; have y1 : (w10.alloc (.cells #[.int .i64 s1, .int .i64 s2] 53)).cell? ⟨db, 1, none⟩ = some (.int .i64 f) := (World.cell?_alloc_lt _ _ _ D10.out.lt).trans D10.out.cells.2; have y2 : (w10.alloc (.cells #[.int .i64 s1, .int .i64 s2] 53)).frozen? ⟨db, 1, none⟩ = false := (World.frozen?_of_block (a := ⟨db, 1, none⟩) (Below.heap_alloc _ _ _ D10.out.lt)).trans (frozen_of D10.out.hp 1); clear hR hA hb))
          all_goals
            obtain ⟨ad9, e9_, _⟩ := D10.out.at_ 0 (by rw [ND.out]; omega)
            subst e9_
            have LO9 := Aside0.mk (D9.out.2.2 ad9 rfl)
            have V := dt_floor D10.out s1 s2 (s2 + 1)
            have hle9 := D10.out.le
            rw [ND.out] at hle9
            have hdc : ¬ c9 = d := by omega
            have O11 := Aside0.mk (O10.out.trans V.2.1)
            have V1 := V.1
            have v0 := V.2.2.1.1
            have v1 := V.2.2.1.2
            have CUT := Aside0.mk (dt_cut V1 (d := d) (by rw [ND.out]; omega) (by omega))
            have e0 := (cell_of V1.hp 0).trans rfl
            have e1 := frozen_of V1.hp 0
            rw [ND.out] at e0 CUT
            have k1 : IntKind.i64.wrap (s2 - s1) = s2 - s1 := w64' (by omega)
            have k2 : IntKind.i64.wrap (s2 - s1 + 1) = (d : Int) := (w64' (by omega)).trans hd
            have hdn' : d ≤ n + 1 := by omega
            have hdz : (d : Int) ≤ (n : Int) + 1 := by omega
            have hfm : Try.prog.follows .mixedOrders = true := by kernel_rfl
            clear V V1 x1 x2 y1 y2 hd hdn hsb1 hsb2 hsb3
            generalize (w10.alloc (.cells #[.int .i64 s1, .int .i64 s2] 53)).setCell ⟨db, 1, none⟩ (.int .i64 (s2 + 1)) = V at *
            generalize w10.heap.size = lb at *
            have FIN := Aside0.mk (HP.out ad9 c9 _ (CUT.out.1.below (below_drew (Below.refl _ _))) ((O11.out.trans CUT.out.2).drew) LO9.out)
            clear CUT O11 HP
            go_region_law_o (fail)
            all_goals
              clear v0 v1 e0 e1 k1 k2 hdn' hdz hfm
              go_wp2
              go_ret
              exact FIN.out
        · have h32z : decide ((32 : Int) < (m : Int)) = false := decide_eq_false (by omega)
          have h32n : decide (32 < m) = false := decide_eq_false h32
          have HP := Aside0.mk (show ∀ A9 c9 w10, Dt w10 db A9 c9 f (dins x L) → Only (fun k => k = db) wr w10 → (∀ a, A9 = some a → wr.heap.size ≤ a.block) → DAdded wr db (none : Option Addr) L f x (.returned (.bool true)) w10 from fun A9 c9 w10 h1 h2 h3 => by
            have e : docAdd L f x = (true, dins x L, f) := by
              unfold docAdd
              rw [if_pos HM.out, if_neg (by rw [← List.length_reverse, HM9.out]; exact h32)]
            exact ⟨A9, c9, by rw [e], by rw [e]; exact h1, h2, .inr h3⟩)
          clear h32
          go_wp2_with (first
            | ((with_reducible refine gate_dst (N := 49) rfl ?_); refine Kd.R_lit (Kd.int .i64) wr.heap.size 3 ?hg (N := 49) ?hd (xs := ([] : List Int)) (inner := []) (ok := fun _ => True) (okp := fun _ => True) ?hr ?hp (fun _ hk => hk) trivial (Below.refl _ _) (Nat.le_refl _) (by simp) ?_; (case hd => rfl); (case hg => rfl); (case hr => first | (go_simp; done) | (go_simp; rfl)); (case hp => exact (Reps.none _ _)); intro v6 w6 ho6 hb6 hg_ hnew_; have c6 := (D.out.below hb6).cells.1; rw [HN.out] at c6; clear hg_ hnew_; have O6 := Aside0.mk ho6; have B6 := Aside0.mk hb6; clear ho6 hb6)
            | ((with_reducible refine gate_builtin (b := .append) (xs := #[.tmp 49, .tmp 55]) rfl ?_); at_builtin; refine Kd.R_append_rows (Kd.int .i64) (w0 := wr) wr.heap.size rfl (.tmp 49) (.tmp 55) 22 3 (.int .i64 0) 8 rfl Try.underlying22 info_int rfl (by decide) (by omega) v6 ([] : List Int) (L.take k) _ _ _ (fun _ => True) (fun _ => False) rfl rfl ?aO ?aR (fun _ _ h => h) (fun _ h => h.elim) ?aF ?aB ?aS ?aL ?_; (case aR => exact (Kd.C_below KT.out B6.out)); (case aB => exact B6.out); (case aF => exact fun _ _ => trivial); (case aO => exact O6.out); (case aS => exact below_size B6.out); (case aL => have := LB.out; simp only [List.length_nil]; omega); intro v7 w7 ho7 hb7 hg7 hat7; clear hg7 hat7; rw [List.nil_append] at ho7; have O7 := Aside0.mk ho7; have B7 := Aside0.mk hb7; clear ho7 hb7 O6 B6)
            | ((with_reducible refine gate_builtin (b := .append) (xs := #[.tmp 56, .tmp 58]) rfl ?_); at_builtin; refine Kd.R_append (Kd.int .i64) (w0 := wr) wr.heap.size rfl (.tmp 56) (.tmp 58) 22 3 (.int .i64 0) 8 rfl Try.underlying22 info_int rfl (by decide) (by omega) v7 (L.take k) x [.int .i64 x] (fun _ => True) (fun _ => False) rfl rfl rfl (fun _ hk => hk.elim) (fun _ _ => trivial) O7.out B7.out B7.out.size (by have := LB.out; have := KL.out; omega) ?_; intro v8 w8 ho8 hb8 hg8 hat8; clear hg8 hat8; have c8 := (D.out.below hb8).cells.1; rw [HN.out] at c8; have O8 := Aside0.mk ho8; have B8 := Aside0.mk hb8; clear ho8 hb8 O7 B7)
            | ((with_reducible refine gate_builtin (b := .append) (xs := #[.tmp 61, .tmp 67]) rfl ?_); at_builtin; refine Kd.R_append_rows (Kd.int .i64) (w0 := wr) wr.heap.size rfl (.tmp 61) (.tmp 67) 22 3 (.int .i64 0) 8 rfl Try.underlying22 info_int rfl (by decide) (by omega) v8 (L.take k ++ [x]) (L.drop k) _ _ _ (fun _ => True) (fun _ => False) rfl rfl ?aO ?aR (fun _ _ h => h) (fun _ h => h.elim) ?aF ?aB ?aS ?aL ?_; (case aR => exact Kd.C_below KD.out B8.out); (case aB => exact B8.out); (case aF => exact fun _ _ => trivial); (case aO => exact O8.out); (case aS => exact below_size B8.out); (case aL => have := LB.out; have := KL.out; simp only [List.length_append, List.length_cons, List.length_nil]; omega); intro v9 w9 ho9 hb9 hg9 hat9; clear hg9 hat9; rw [List.append_assoc, List.singleton_append, ES.out] at ho9; obtain ⟨A9, c9, e9⟩ := Kd.R_slice ho9; rw [ND.out] at e9; subst e9; have c9_ := (D.out.below hb9).cells.1; rw [HN.out] at c9_; have f9_ := frozen_of (D.out.below hb9).hp 0; rw [← ND.out] at ho9; have D9 := dt_store D.out hb9 ho9; rw [ND.out] at D9; have D9 := Aside0.mk D9; clear ho9 hb9 O8 B8)
            | (go_at_call 12; refine (dspans_calls D9.out.1 HS9.out (by rw [ND.out]; have := LB.out; omega)).mono ?_; rintro e10 w10 ⟨A10, c10, rfl, hR, hA, hb⟩; simp only [HM9.out]; have R10 := Aside0.mk hR; have D10 := Aside0.mk (D9.out.1.below hb); have O10 := Aside0.mk (D9.out.2.1.trans (Only.of_below hb)); clear hR hA hb))
          all_goals
            go_ret
            exact HP.out _ _ _ D10.out O10.out D9.out.2.2
      · skip
        have ES := Aside0.mk (dins_at (n := x) k (by rw [HN.out]; exact hk) LEK.out G.out)
        have KT := Aside0.mk (Kd.C_take (m := k) D.out.row (by rw [HN.out]; exact hk))
        have KD := Aside0.mk (Kd.C_drop (m := k) D.out.row (by rw [HN.out]; exact hk) D.out.le)
        have KL := Aside0.mk (show (L.take k).length ≤ n by rw [List.length_take, HN.out]; omega)
        have LB := Aside0.mk (show n ≤ 900 ∧ k ≤ n from ⟨hl, hk⟩)
        have hkc : k ≤ c := Nat.le_trans hk (by have := D.out.le; rw [HN.out] at this; exact this)
        have ekl : (L.take k).length = k := by rw [List.length_take, HN.out]; omega
        rw [ekl] at KT
        have ekd : (L.drop k).length = n - k := by rw [List.length_drop, HN.out]
        rw [ekd] at KD
        replace KD : Aside0 (Kd.C (Kd.int .i64) wr (if c = k then some ad else some (ad.add k)) (n - k) (L.drop k)) := ⟨by
          have h := KD.out
          by_cases hck : c = k
          · rw [if_pos hck] at h ⊢; exact h
          · rw [if_neg hck] at h ⊢; rw [show k * (Kd.int .i64).sz = k from Nat.mul_one k] at h; exact h⟩
        have ND := Aside0.mk (show (dins x L).length = n + 1 by rw [dins_len, HN.out])
        have HS9 := Aside0.mk (dins_srt HS.out (by have := HM.out.1; omega) HM.out.1.2 HM.out.2.2)
        obtain ⟨m, hm9⟩ : ∃ m, (spn (dins x L)).reverse.length = m := ⟨_, rfl⟩
        have HM9 := Aside0.mk hm9
        clear hm9 ekl ekd
        by_cases h32 : 32 < m
        · have h32z : decide ((32 : Int) < (m : Int)) = true := decide_eq_true (by omega)
          have h32n : decide (32 < m) = true := decide_eq_true h32
          have H32 := Aside0.mk h32
          have mb : m ≤ 1000 := by have := spn_len (dins x L); rw [ND.out, ← List.length_reverse, HM9.out] at this; omega
          have mp : 0 < m := by omega
          obtain ⟨s1, s2, rr, hsr⟩ : ∃ s1 s2 rr, spn (dins x L) = (s1, s2) :: rr := by
            rcases hq : spn (dins x L) with _ | ⟨s, rr⟩
            · have h := HM9.out; rw [hq] at h; simp at h; omega
            · exact ⟨s.1, s.2, rr, rfl⟩
          have HSR := Aside0.mk hsr
          have LAST := Aside0.mk (show ∀ (h : m - 1 < (spn (dins x L)).reverse.length), (spn (dins x L)).reverse[m - 1] = (s1, s2) from fun h => by
            have hml : (spn (dins x L)).length = m := by rw [← List.length_reverse, HM9.out]
            rw [List.getElem_reverse]
            simp only [hml, show m - 1 - (m - 1) = 0 by omega]
            simp [hsr])
          have hsb := gd_mem (spn_gd HS9.out) (s1, s2) (by rw [hsr]; exact List.mem_cons_self)
          have hsb1 : -1 < s1 := hsb.1
          have hsb2 : s1 ≤ s2 := hsb.2.1
          have hsb3 : s2 ≤ 4611686018427387903 := hsb.2.2
          clear hsr hsb h32
          obtain ⟨d, hd⟩ : ∃ d : Nat, s2 - s1 + 1 = (d : Int) := ⟨(s2 - s1 + 1).toNat, by omega⟩
          have hdn : d < n + 1 := by
            have h1 := spn_drop HS9.out HSR.out
            have e : ((s1, s2).2 - (s1, s2).1 + 1).toNat = d := by show (s2 - s1 + 1).toNat = d; omega
            rw [e] at h1
            rcases Nat.lt_or_ge d (n + 1) with q | q
            · exact q
            · rw [List.drop_eq_nil_of_le (by rw [ND.out]; exact q)] at h1
              have h2 : (spn (dins x L)).length = m := by rw [← List.length_reverse, HM9.out]
              rw [HSR.out, ← h1] at h2
              have := H32.out
              simp [spn] at h2; omega
          have HP := Aside0.mk (show ∀ (ad9 : Addr) (c9 : Nat) V, Dt V db (some (ad9.add d)) (c9 - d) (s2 + 1) ((dins x L).drop d) → Only (fun k => k = db) wr V → wr.heap.size ≤ ad9.block → DAdded wr db (some ad) L f x (.returned (.bool true)) V from fun ad9 c9 V h1 h2 h3 => by
            have e : docAdd L f x = (true, (dins x L).drop d, s2 + 1) := by
              unfold docAdd
              rw [if_pos HM.out, if_pos (by rw [← List.length_reverse, HM9.out]; exact H32.out), HSR.out]
              show (true, (dins x L).drop (s2 - s1 + 1).toNat, s2 + 1) = _
              rw [show (s2 - s1 + 1).toNat = d by omega]
            refine ⟨_, _, by rw [e], by rw [e]; exact h1, h2, .inr (fun a ha => ?_)⟩
            injection ha with ha
            rw [← ha]
            unfold Addr.add; split <;> exact h3)
          go_wp2_with (first
            | ((with_reducible refine gate_dst (N := 49) rfl ?_); refine Kd.R_lit (Kd.int .i64) wr.heap.size 3 ?hg (N := 49) ?hd (xs := ([] : List Int)) (inner := []) (ok := fun _ => True) (okp := fun _ => True) ?hr ?hp (fun _ hk => hk) trivial (Below.refl _ _) (Nat.le_refl _) (by simp) ?_; (case hd => rfl); (case hg => rfl); (case hr => first | (go_simp; done) | (go_simp; rfl)); (case hp => exact (Reps.none _ _)); intro v6 w6 ho6 hb6 hg_ hnew_; have c6 := (D.out.below hb6).cells.1; rw [HN.out] at c6; clear hg_ hnew_; have O6 := Aside0.mk ho6; have B6 := Aside0.mk hb6; clear ho6 hb6)
            | ((with_reducible refine gate_builtin (b := .append) (xs := #[.tmp 49, .tmp 55]) rfl ?_); at_builtin; refine Kd.R_append_rows (Kd.int .i64) (w0 := wr) wr.heap.size rfl (.tmp 49) (.tmp 55) 22 3 (.int .i64 0) 8 rfl Try.underlying22 info_int rfl (by decide) (by omega) v6 ([] : List Int) (L.take k) _ _ _ (fun _ => True) (fun _ => False) rfl rfl ?aO ?aR (fun _ _ h => h) (fun _ h => h.elim) ?aF ?aB ?aS ?aL ?_; (case aR => exact (Kd.C_below KT.out B6.out)); (case aB => exact B6.out); (case aF => exact fun _ _ => trivial); (case aO => exact O6.out); (case aS => exact below_size B6.out); (case aL => have := LB.out; simp only [List.length_nil]; omega); intro v7 w7 ho7 hb7 hg7 hat7; clear hg7 hat7; rw [List.nil_append] at ho7; have O7 := Aside0.mk ho7; have B7 := Aside0.mk hb7; clear ho7 hb7 O6 B6)
            | ((with_reducible refine gate_builtin (b := .append) (xs := #[.tmp 56, .tmp 58]) rfl ?_); at_builtin; refine Kd.R_append (Kd.int .i64) (w0 := wr) wr.heap.size rfl (.tmp 56) (.tmp 58) 22 3 (.int .i64 0) 8 rfl Try.underlying22 info_int rfl (by decide) (by omega) v7 (L.take k) x [.int .i64 x] (fun _ => True) (fun _ => False) rfl rfl rfl (fun _ hk => hk.elim) (fun _ _ => trivial) O7.out B7.out B7.out.size (by have := LB.out; have := KL.out; omega) ?_; intro v8 w8 ho8 hb8 hg8 hat8; clear hg8 hat8; have c8 := (D.out.below hb8).cells.1; rw [HN.out] at c8; have O8 := Aside0.mk ho8; have B8 := Aside0.mk hb8; clear ho8 hb8 O7 B7)
            | ((with_reducible refine gate_builtin (b := .append) (xs := #[.tmp 61, .tmp 67]) rfl ?_); at_builtin; refine Kd.R_append_rows (Kd.int .i64) (w0 := wr) wr.heap.size rfl (.tmp 61) (.tmp 67) 22 3 (.int .i64 0) 8 rfl Try.underlying22 info_int rfl (by decide) (by omega) v8 (L.take k ++ [x]) (L.drop k) _ _ _ (fun _ => True) (fun _ => False) rfl rfl ?aO ?aR (fun _ _ h => h) (fun _ h => h.elim) ?aF ?aB ?aS ?aL ?_; (case aR => exact Kd.C_below KD.out B8.out); (case aB => exact B8.out); (case aF => exact fun _ _ => trivial); (case aO => exact O8.out); (case aS => exact below_size B8.out); (case aL => have := LB.out; have := KL.out; simp only [List.length_append, List.length_cons, List.length_nil]; omega); intro v9 w9 ho9 hb9 hg9 hat9; clear hg9 hat9; rw [List.append_assoc, List.singleton_append, ES.out] at ho9; obtain ⟨A9, c9, e9⟩ := Kd.R_slice ho9; rw [ND.out] at e9; subst e9; have c9_ := (D.out.below hb9).cells.1; rw [HN.out] at c9_; have f9_ := frozen_of (D.out.below hb9).hp 0; rw [← ND.out] at ho9; have D9 := dt_store D.out hb9 ho9; rw [ND.out] at D9; have D9 := Aside0.mk D9; clear ho9 hb9 O8 B8)
            | (go_at_call 12; refine (dspans_calls D9.out.1 HS9.out (by rw [ND.out]; have := LB.out; omega)).mono ?_; rintro e10 w10 ⟨A10, c10, rfl, hR, hA, hb⟩; simp only [HM9.out]; have R10 := Aside0.mk hR; have D10 := Aside0.mk (D9.out.1.below hb); have O10 := Aside0.mk (D9.out.2.1.trans (Only.of_below hb)); obtain ⟨b10, off10, e10_, x1, x2⟩ := hR.get (m - 1) (by rw [HM9.out]; omega); subst e10_; rw [LAST.out] at x1 x2; have y1 : (w10.alloc (.cells #[.int .i64 s1, .int .i64 s2] 53)).cell? ⟨db, 1, none⟩ = some (.int .i64 f) := (World.cell?_alloc_lt _ _ _ D10.out.lt).trans D10.out.cells.2; have y2 : (w10.alloc (.cells #[.int .i64 s1, .int .i64 s2] 53)).frozen? ⟨db, 1, none⟩ = false := (World.frozen?_of_block (a := ⟨db, 1, none⟩) (Below.heap_alloc _ _ _ D10.out.lt)).trans (frozen_of D10.out.hp 1); clear hR hA hb))
          all_goals
            obtain ⟨ad9, e9_, _⟩ := D10.out.at_ 0 (by rw [ND.out]; omega)
            subst e9_
            have LO9 := Aside0.mk (D9.out.2.2 ad9 rfl)
            have V := dt_floor D10.out s1 s2 (s2 + 1)
            have hle9 := D10.out.le
            rw [ND.out] at hle9
            have hdc : ¬ c9 = d := by omega
            have O11 := Aside0.mk (O10.out.trans V.2.1)
            have V1 := V.1
            have v0 := V.2.2.1.1
            have v1 := V.2.2.1.2
            have CUT := Aside0.mk (dt_cut V1 (d := d) (by rw [ND.out]; omega) (by omega))
            have e0 := (cell_of V1.hp 0).trans rfl
            have e1 := frozen_of V1.hp 0
            rw [ND.out] at e0 CUT
            have k1 : IntKind.i64.wrap (s2 - s1) = s2 - s1 := w64' (by omega)
            have k2 : IntKind.i64.wrap (s2 - s1 + 1) = (d : Int) := (w64' (by omega)).trans hd
            have hdn' : d ≤ n + 1 := by omega
            have hdz : (d : Int) ≤ (n : Int) + 1 := by omega
            have hfm : Try.prog.follows .mixedOrders = true := by kernel_rfl
            clear V V1 x1 x2 y1 y2 hd hdn hsb1 hsb2 hsb3
            generalize (w10.alloc (.cells #[.int .i64 s1, .int .i64 s2] 53)).setCell ⟨db, 1, none⟩ (.int .i64 (s2 + 1)) = V at *
            generalize w10.heap.size = lb at *
            have FIN := Aside0.mk (HP.out ad9 c9 _ (CUT.out.1.below (below_drew (Below.refl _ _))) ((O11.out.trans CUT.out.2).drew) LO9.out)
            clear CUT O11 HP
            go_region_law_o (fail)
            all_goals
              clear v0 v1 e0 e1 k1 k2 hdn' hdz hfm
              go_wp2
              go_ret
              exact FIN.out
        · have h32z : decide ((32 : Int) < (m : Int)) = false := decide_eq_false (by omega)
          have h32n : decide (32 < m) = false := decide_eq_false h32
          have HP := Aside0.mk (show ∀ A9 c9 w10, Dt w10 db A9 c9 f (dins x L) → Only (fun k => k = db) wr w10 → (∀ a, A9 = some a → wr.heap.size ≤ a.block) → DAdded wr db (some ad) L f x (.returned (.bool true)) w10 from fun A9 c9 w10 h1 h2 h3 => by
            have e : docAdd L f x = (true, dins x L, f) := by
              unfold docAdd
              rw [if_pos HM.out, if_neg (by rw [← List.length_reverse, HM9.out]; exact h32)]
            exact ⟨A9, c9, by rw [e], by rw [e]; exact h1, h2, .inr h3⟩)
          clear h32
          go_wp2_with (first
            | ((with_reducible refine gate_dst (N := 49) rfl ?_); refine Kd.R_lit (Kd.int .i64) wr.heap.size 3 ?hg (N := 49) ?hd (xs := ([] : List Int)) (inner := []) (ok := fun _ => True) (okp := fun _ => True) ?hr ?hp (fun _ hk => hk) trivial (Below.refl _ _) (Nat.le_refl _) (by simp) ?_; (case hd => rfl); (case hg => rfl); (case hr => first | (go_simp; done) | (go_simp; rfl)); (case hp => exact (Reps.none _ _)); intro v6 w6 ho6 hb6 hg_ hnew_; have c6 := (D.out.below hb6).cells.1; rw [HN.out] at c6; clear hg_ hnew_; have O6 := Aside0.mk ho6; have B6 := Aside0.mk hb6; clear ho6 hb6)
            | ((with_reducible refine gate_builtin (b := .append) (xs := #[.tmp 49, .tmp 55]) rfl ?_); at_builtin; refine Kd.R_append_rows (Kd.int .i64) (w0 := wr) wr.heap.size rfl (.tmp 49) (.tmp 55) 22 3 (.int .i64 0) 8 rfl Try.underlying22 info_int rfl (by decide) (by omega) v6 ([] : List Int) (L.take k) _ _ _ (fun _ => True) (fun _ => False) rfl rfl ?aO ?aR (fun _ _ h => h) (fun _ h => h.elim) ?aF ?aB ?aS ?aL ?_; (case aR => exact (Kd.C_below KT.out B6.out)); (case aB => exact B6.out); (case aF => exact fun _ _ => trivial); (case aO => exact O6.out); (case aS => exact below_size B6.out); (case aL => have := LB.out; simp only [List.length_nil]; omega); intro v7 w7 ho7 hb7 hg7 hat7; clear hg7 hat7; rw [List.nil_append] at ho7; have O7 := Aside0.mk ho7; have B7 := Aside0.mk hb7; clear ho7 hb7 O6 B6)
            | ((with_reducible refine gate_builtin (b := .append) (xs := #[.tmp 56, .tmp 58]) rfl ?_); at_builtin; refine Kd.R_append (Kd.int .i64) (w0 := wr) wr.heap.size rfl (.tmp 56) (.tmp 58) 22 3 (.int .i64 0) 8 rfl Try.underlying22 info_int rfl (by decide) (by omega) v7 (L.take k) x [.int .i64 x] (fun _ => True) (fun _ => False) rfl rfl rfl (fun _ hk => hk.elim) (fun _ _ => trivial) O7.out B7.out B7.out.size (by have := LB.out; have := KL.out; omega) ?_; intro v8 w8 ho8 hb8 hg8 hat8; clear hg8 hat8; have c8 := (D.out.below hb8).cells.1; rw [HN.out] at c8; have O8 := Aside0.mk ho8; have B8 := Aside0.mk hb8; clear ho8 hb8 O7 B7)
            | ((with_reducible refine gate_builtin (b := .append) (xs := #[.tmp 61, .tmp 67]) rfl ?_); at_builtin; refine Kd.R_append_rows (Kd.int .i64) (w0 := wr) wr.heap.size rfl (.tmp 61) (.tmp 67) 22 3 (.int .i64 0) 8 rfl Try.underlying22 info_int rfl (by decide) (by omega) v8 (L.take k ++ [x]) (L.drop k) _ _ _ (fun _ => True) (fun _ => False) rfl rfl ?aO ?aR (fun _ _ h => h) (fun _ h => h.elim) ?aF ?aB ?aS ?aL ?_; (case aR => exact Kd.C_below KD.out B8.out); (case aB => exact B8.out); (case aF => exact fun _ _ => trivial); (case aO => exact O8.out); (case aS => exact below_size B8.out); (case aL => have := LB.out; have := KL.out; simp only [List.length_append, List.length_cons, List.length_nil]; omega); intro v9 w9 ho9 hb9 hg9 hat9; clear hg9 hat9; rw [List.append_assoc, List.singleton_append, ES.out] at ho9; obtain ⟨A9, c9, e9⟩ := Kd.R_slice ho9; rw [ND.out] at e9; subst e9; have c9_ := (D.out.below hb9).cells.1; rw [HN.out] at c9_; have f9_ := frozen_of (D.out.below hb9).hp 0; rw [← ND.out] at ho9; have D9 := dt_store D.out hb9 ho9; rw [ND.out] at D9; have D9 := Aside0.mk D9; clear ho9 hb9 O8 B8)
            | (go_at_call 12; refine (dspans_calls D9.out.1 HS9.out (by rw [ND.out]; have := LB.out; omega)).mono ?_; rintro e10 w10 ⟨A10, c10, rfl, hR, hA, hb⟩; simp only [HM9.out]; have R10 := Aside0.mk hR; have D10 := Aside0.mk (D9.out.1.below hb); have O10 := Aside0.mk (D9.out.2.1.trans (Only.of_below hb)); clear hR hA hb))
          all_goals
            go_ret
            exact HP.out _ _ _ D10.out O10.out D9.out.2.2

/-- Add, whole. -/
theorem dadd_calls {W : World} {db : Nat} {A : Option Addr} {c : Nat} {f x : Int} {L : List Int} (hD : Dt W db A c f L) (hs : Srt (-1) L) (hl : L.length ≤ 900) :
    Calls Try.prog 10 #[.pointer (some ⟨db, 0, none⟩), .int .i64 x] W (DAdded W db A L f x) := by
  by_cases hm : (0 ≤ x ∧ x ≤ 4611686018427387903) ∧ f ≤ x ∧ x ∉ L
  · exact dadd_yes hD hs hl hm
  · exact dadd_no hD (by omega) hm
end Go.Proofs.Ytpihkmpcnkhnfaa.Sp
