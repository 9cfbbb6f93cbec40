/- A set as spans: Add, where it adds. -/
import Derived.Test.YtpihkmpcnkhnfaaSp6
import Derived.Deep.CutRange
import Derived.Shelf.RegionOpenPlain
namespace Go.Proofs.Ytpihkmpcnkhnfaa.Sp
open Go Go.RowKit Go.Lib Go.Proofs.YtpihkmpcnkhnfaaW.PrintWords
open Go.Proofs.Ytpihkmpcnkhnfaa.Onl (Only)
set_option linter.unusedVariables false
set_option linter.unusedSimpArgs false

theorem frozen_of {W : World} {g : Nat} {cs : Array Value} {t : TypeId} (h : W.heap[g]? = some (.cells cs t (0, 0))) (j : Nat) : W.frozen? ⟨g, j, none⟩ = false := by simp [World.frozen?, h]
theorem cell_of {W : World} {g : Nat} {cs : Array Value} {t : TypeId} {fr : Nat × Nat} (h : W.heap[g]? = some (.cells cs t fr)) (j : Nat) : W.cell? ⟨g, j, none⟩ = cs[j]? := by simp [World.cell?, h]

/-- The spans' ends are numbers that may be added. -/
def Bd (l : List Spn) : Prop := ∀ s ∈ l, 0 ≤ s.2 ∧ s.2 ≤ 4611686018427387903
theorem put_bd {l : List Spn} {x : Int} (h : Bd l) (hx : 0 ≤ x ∧ x ≤ 4611686018427387903) : Bd (put l x) := by
  intro s hs
  unfold put at hs
  rcases List.mem_append.1 hs with hs | hs
  · rcases List.mem_append.1 hs with hs | hs
    · exact h s (List.mem_of_mem_take hs)
    · obtain rfl := List.mem_singleton.1 hs
      show 0 ≤ own2 l x ∧ own2 l x ≤ 4611686018427387903
      unfold own2
      split
      · rename_i hq
        unfold qB at hq
        rcases hg : l[pl l x]? with _ | s
        · rw [hg] at hq; cases hq
        · rw [List.getD_eq_getElem?_getD, hg]
          exact h s (List.mem_of_getElem? hg)
      · exact hx
  · exact h s (List.mem_of_mem_drop hs)

set_option maxHeartbeats 4000000 in
set_option maxRecDepth 100000 in
/-- What may be added is. -/
theorem add_yes {W : World} {sb : Nat} {A : Option Addr} {c : Nat} {f x : Int} {l : List Spn} (hS : St W sb A c f l) (hA : Asc l) (hBd : Bd l) (hl : l.length ≤ 100) (hm : may l f x = true) :
    Calls Try.prog 7 #[.pointer (some ⟨sb, 0, none⟩), .int .i64 x] W (Added W sb A l f x) := by
  have HZ := Aside0.mk (size_calls W x)
  have HH := Aside0.mk (has_calls (x := x) hS hA (by omega))
  have PL := Aside0.mk (fun (W' : World) (hb : Below W.heap.size W W') => place_calls (x := x) (hS.below hb) hA (by omega))
  have c1 := hS.cells.2
  have HS := Aside0.mk hS
  have HM := Aside0.mk hm
  have HBD := Aside0.mk hBd
  clear hBd
  unfold may at hm
  simp only [Bool.and_eq_true, decide_eq_true_eq, Bool.not_eq_true'] at hm
  obtain ⟨⟨h1, h2⟩, h3⟩ := hm
  rw [h3] at HH
  have g2 : decide (x < f) = false := decide_eq_false (by omega)
  have H1 := Aside0.mk h1
  have hx1 : -9223372036854775808 ≤ x - 1 := by omega
  have hx2 : x + 1 ≤ 9223372036854775807 := by unfold big at h1; omega
  have hx3 : 0 ≤ x := h1.1
  have hx4 : x ≤ 4611686018427387903 := h1.2
  have hple := pl_le l x
  have hfr : frm l x = if pB l x then pl l x - 1 else pl l x := rfl
  have hto : too l x = if qB l x then pl l x + 1 else pl l x := rfl
  have ho1 : own1 l x = if pB l x then (l.getD (pl l x - 1) (0, 0)).1 else x := rfl
  have ho2 : own2 l x = if qB l x then (l.getD (pl l x) (0, 0)).2 else x := rfl
  have hpb : pB l x = (decide (0 < pl l x) && (match l[pl l x - 1]? with | some s => decide (s.2 = x - 1) | none => false)) := rfl
  have hqb : qB l x = (match l[pl l x]? with | some s => decide (s.1 = x + 1) | none => false) := rfl
  obtain ⟨i, hi⟩ : ∃ i, pl l x = i := ⟨_, rfl⟩
  rw [hi] at hple hfr hto ho1 ho2 hpb hqb
  have HI := Aside0.mk hi
  have PL2 := Aside0.mk (show ∀ W', Below W.heap.size W W' → Calls Try.prog 18 #[.pointer (some ⟨sb, 0, none⟩), .int .i64 x] W' fun e w' => e = .returned (.int .i64 (i : Int)) ∧ Below W'.heap.size W' w' from fun W' hb => by have := PL.out W' hb; rw [hi] at this; exact this)
  have FR := Aside0.mk hfr
  have TO := Aside0.mk hto
  have O1 := Aside0.mk ho1
  have O2 := Aside0.mk ho2
  have PB := Aside0.mk hpb
  have QB := Aside0.mk hqb
  obtain ⟨n, hn⟩ : ∃ n, l.length = n := ⟨_, rfl⟩
  have HN := Aside0.mk hn
  rw [hn] at hple hl
  clear hS hA h3 h1 h2 hi hfr hto ho1 ho2 hpb hqb PL hn
  go_enter Try.func7, Try.ntmps7
  go_upto_region 4 with (first
    | (go_at_call 17; refine HZ.out.mono ?_; rintro e w1 ⟨z, rfl, hz, hw⟩; have hw' := hw.symm; clear hw; subst hw'; have hz0 : (z == 0) = false := (by simp only [beq_eq_false_iff_ne]; exact fun q => hz.1 q H1.out); have hz1 : ¬ z = 0 := (fun q => hz.1 q H1.out); clear hz)
    | (go_at_call 14; refine HH.out.mono ?_; rintro e w2 ⟨rfl, hb⟩; have B2 := Aside0.mk hb; clear hb)
    | (go_at_call 18; refine (PL2.out w2 B2.out).mono ?_; rintro e w3 ⟨rfl, hb⟩; have B3 := Aside0.mk (below_step B2.out hb); clear hb))
  clear HZ HH PL2 hz0 hz1 g2 c1
  obtain ⟨w4, hw4⟩ : ∃ y, w3.alloc (.cells #[.int .i64 x, .int .i64 x] 30) = y := ⟨_, rfl⟩
  obtain ⟨ob, hob⟩ : ∃ g, w3.heap.size = g := ⟨_, rfl⟩
  have P4 := Aside0.mk (show w4.heap[ob]? = some (.cells #[.int .i64 x, .int .i64 x] 30 (0, 0)) by rw [← hw4, ← hob]; exact World.alloc_heap_new _ _)
  have B4 := Aside0.mk (show Below W.heap.size W w4 by rw [← hw4]; exact below_alloc B3.out _)
  have HOB := Aside0.mk (show W.heap.size ≤ ob by rw [← hob]; exact B3.out.size)
  go_upto_region 5 with fail
  try simp only [hw4, hob]
  iterate 17 go_step
  have OX4 := Aside0.mk (Only.refl (fun k => k = ob) w4)
  have SB := Aside0.mk (show sb < W.heap.size from HS.out.lt)
  have RBK := Aside0.mk (show ∀ k, rb A = some k → k < W.heap.size from fun k e => HS.out.row.lt k e)
  have ST := Aside0.mk (fun (W' : World) (ho : Only (fun k => k = ob) w4 W') => show St W' sb A c f l from (HS.out.below B4.out).only ho (by have := SB.out; have := HOB.out; omega) (fun k e => by have := RBK.out k e; have := HOB.out; omega))
  obtain ⟨fr, hfr⟩ : ∃ y, frm l x = y := ⟨_, rfl⟩
  obtain ⟨tt, hto⟩ : ∃ y, too l x = y := ⟨_, rfl⟩
  obtain ⟨u, hu⟩ : ∃ y, own1 l x = y := ⟨_, rfl⟩
  obtain ⟨v, hv⟩ : ∃ y, own2 l x = y := ⟨_, rfl⟩
  have HFR := Aside0.mk hfr
  have HTO := Aside0.mk hto
  have HU := Aside0.mk hu
  have HV := Aside0.mk hv
  rw [hfr] at FR
  rw [hto] at TO
  rw [hu] at O1
  rw [hv] at O2
  clear hfr hto hu hv
  go_cut [7] from 37 to 64 (fun v7 wx => v7 = .int .i64 (fr : Int) ∧ Aside0 (wx.heap[ob]? = some (.cells #[.int .i64 u, .int .i64 x] 30 (0, 0))) ∧ Aside0 (Only (fun k => k = ob) w4 wx))
  case first =>
    have c0 := (ST.out w4 OX4.out).cells.1
    rw [HN.out] at c0
    by_cases hi0 : i = 0
    · subst hi0
      have e : pB l x = false := by rw [PB.out]; simp
      have FR' := FR.out
      have O1' := O1.out
      rw [e] at FR' O1'
      simp only [Bool.false_eq_true, if_false] at FR' O1'
      have O1s := O1'.symm
      clear O1'
      subst FR' O1s
      clear e c0
      go_wp2
      go_meet
      case rel => exact ⟨rfl, P4, OX4⟩
    · have hlt : i - 1 < l.length := by have := HN.out; omega
      obtain ⟨b, off, hA2, x1, x2⟩ := (ST.out w4 OX4.out).row.get (i - 1) hlt
      obtain ⟨s1, s2, hs⟩ : ∃ s1 s2, l[i - 1] = (s1, s2) := ⟨_, _, rfl⟩
      rw [hs] at x1 x2
      have hge : l[i - 1]? = some (s1, s2) := by rw [List.getElem?_eq_getElem hlt, hs]
      have i0 : 0 < i := by omega
      have q1 : decide ((0 : Int) < (i : Int)) = true := decide_eq_true (by omega)
      have q2 : decide (0 < i) = true := decide_eq_true i0
      have q3 : (0 : Int) ≤ (i : Int) - 1 := by omega
      have q4 : (i : Int) - 1 < (n : Int) := by omega
      have q5 : ((i : Int) - 1).toNat = i - 1 := by omega
      rw [hA2] at c0
      by_cases hp : s2 = x - 1
      · have e : pB l x = true := by rw [PB.out, hge]; simp [i0, hp]
        have FR' := FR.out
        have O1' := O1.out
        rw [e] at FR' O1'
        simp only [if_true, List.getD_eq_getElem?_getD, hge, Option.getD_some] at FR' O1'
        subst FR' O1' hp
        have z0 : w4.cell? ⟨ob, 0, none⟩ = some (.int .i64 x) := (cell_of P4.out 0).trans rfl
        have z1 := frozen_of P4.out 0
        have P5 := Aside0.mk (show (w4.setCell ⟨ob, 0, none⟩ (.int .i64 u)).heap[ob]? = some (.cells #[.int .i64 u, .int .i64 x] 30 (0, 0)) by
          rw [heap_setCell_at P4.out]; rfl)
        have OX5 := Aside0.mk (OX4.out.setCell (ad := ⟨ob, 0, none⟩) rfl (.int .i64 u))
        clear e hge hlt hs hi0
        go_wp2
        go_meet
        case rel => exact ⟨by congr 1; omega, P5, OX5⟩
      · have e : pB l x = false := by rw [PB.out, hge]; simp [hp]
        have FR' := FR.out
        have O1' := O1.out
        rw [e] at FR' O1'
        simp only [Bool.false_eq_true, if_false] at FR' O1'
        have O1s := O1'.symm
        clear O1'
        subst FR' O1s
        have q6 : (s2 == x - 1) = false := by simp [hp]
        clear e hge hlt hs hi0
        go_wp2
        go_meet
        case rel => exact ⟨rfl, P4, OX4⟩
  case rest =>
    obtain ⟨rfl, P5, OX5⟩ := hcut
    clear P4 OX4
    go_step
    go_step
    go_cut [8] from 65 to 95 (fun v8 wx => v8 = .int .i64 (tt : Int) ∧ Aside0 (wx.heap[ob]? = some (.cells #[.int .i64 u, .int .i64 v] 30 (0, 0))) ∧ Aside0 (Only (fun k => k = ob) w4 wx))
    case first =>
      have c0 := (ST.out wc OX5.out).cells.1
      rw [HN.out] at c0
      by_cases hin : i = n
      · have e : qB l x = false := by rw [QB.out, List.getElem?_eq_none (by have := HN.out; omega)]
        have TO' := TO.out
        have O2' := O2.out
        rw [e] at TO' O2'
        simp only [Bool.false_eq_true, if_false] at TO' O2'
        have O2s := Aside0.mk O2'
        have TOs := Aside0.mk TO'
        clear O2' TO' e
        have q1 : decide ((i : Int) < (n : Int)) = false := decide_eq_false (by omega)
        have q2 : decide (i < n) = false := decide_eq_false (by omega)
        clear hin
        go_wp2
        go_meet
        case rel => exact ⟨by rw [TOs.out], by rw [O2s.out]; exact P5, OX5⟩
      · have hlt : i < l.length := by have := HN.out; omega
        obtain ⟨b, off, hA2, x1, x2⟩ := (ST.out wc OX5.out).row.get i hlt
        obtain ⟨s1, s2, hs⟩ : ∃ s1 s2, l[i] = (s1, s2) := ⟨_, _, rfl⟩
        rw [hs] at x1 x2
        have hge : l[i]? = some (s1, s2) := by rw [List.getElem?_eq_getElem hlt, hs]
        have i0 : i < n := by omega
        have q1 : decide ((i : Int) < (n : Int)) = true := decide_eq_true (by omega)
        have q2 : decide (i < n) = true := decide_eq_true i0
        rw [hA2] at c0
        by_cases hp : s1 = x + 1
        · have e : qB l x = true := by rw [QB.out, hge]; simp [hp]
          have TO' := TO.out
          have O2' := O2.out
          rw [e] at TO' O2'
          simp only [if_true, List.getD_eq_getElem?_getD, hge, Option.getD_some] at TO' O2'
          subst TO' O2' hp
          have z0 : wc.cell? ⟨ob, 1, none⟩ = some (.int .i64 x) := (cell_of P5.out 1).trans rfl
          have z1 := frozen_of P5.out 1
          have P6 := Aside0.mk (show (wc.setCell ⟨ob, 1, none⟩ (.int .i64 v)).heap[ob]? = some (.cells #[.int .i64 u, .int .i64 v] 30 (0, 0)) by
            rw [heap_setCell_at P5.out]; rfl)
          have OX6 := Aside0.mk (OX5.out.setCell (ad := ⟨ob, 1, none⟩) rfl (.int .i64 v))
          clear e hge hlt hs hin
          go_wp2
          go_meet
          case rel => exact ⟨by first | rfl | (congr 1; omega), P6, OX6⟩
        · have e : qB l x = false := by rw [QB.out, hge]; simp [hp]
          have TO' := TO.out
          have O2' := O2.out
          rw [e] at TO' O2'
          simp only [Bool.false_eq_true, if_false] at TO' O2'
          have O2s := Aside0.mk O2'
          have TOs := Aside0.mk TO'
          clear O2' TO'
          have q6 : (s1 == x + 1) = false := by simp [hp]
          clear e hge hlt hs hin
          go_wp2
          go_meet
          case rel => exact ⟨by rw [TOs.out], by rw [O2s.out]; exact P5, OX5⟩
    case rest =>
      obtain ⟨rfl, P6, OX6⟩ := hcut
      clear P5 OX5
      have hft : fr ≤ tt ∧ tt ≤ l.length := by
        have h1 := FR.out
        have h2 := TO.out
        have h3 : qB l x = true → i < l.length := fun q => by
          rcases Nat.lt_or_ge i l.length with h | h
          · exact h
          · have := QB.out; rw [List.getElem?_eq_none h, q] at this; cases this
        have hn := HN.out
        by_cases q : qB l x = true
        · rw [if_pos q] at h2
          have := h3 q
          split at h1 <;> omega
        · rw [if_neg q] at h2
          split at h1 <;> omega
      have SC := ST.out wc OX6.out
      obtain ⟨l', hl'⟩ : ∃ y, l.take fr ++ [(u, v)] ++ l.drop tt = y := ⟨_, rfl⟩
      have HPUT := Aside0.mk (show put l x = l' by unfold put; rw [HFR.out, HTO.out, HU.out, HV.out, hl'])
      obtain ⟨n', hn'⟩ : ∃ y, l'.length = y := ⟨_, rfl⟩
      have hn2 : n' ≤ n + 1 := by rw [← hn', ← hl']; have := HN.out; simp; omega
      have hpos' : 0 < n' := by rw [← hn', ← hl']; simp; omega
      have RP := Aside0.mk (show ∀ W5 : World, W5 = (wc.alloc (.cells #[.int .i64 u, .int .i64 v] 30)).drew → Calls Try.prog 19 #[.slice A n c, .int .i64 (fr : Int), .int .i64 (tt : Int), .slice (some ⟨wc.heap.size, 0, none⟩) 1 1] W5 (Ins W5 A l') from fun W5 e => by
        subst e
        have hb : Below wc.heap.size wc ((wc.alloc (.cells #[.int .i64 u, .int .i64 v] 30)).drew) := below_drew (below_alloc (Below.refl _ _) _)
        have hv' : RowAt ((wc.alloc (.cells #[.int .i64 u, .int .i64 v] 30)).drew) wc.heap.size 0 1 [(u, v)] :=
          (RowAt.alloc (W := wc) (c := 1) (l := [(u, v)]) #[.int .i64 u, .int .i64 v] 30 (by simp) (by omega) (by omega) (by simp) (fun j w hj => by rw [← hj]; simp [enc])).move rfl
        have := replace_calls (A := A) (c := c) (vb := wc.heap.size) (i := fr) (k := tt) (l := l) (x := (u, v)) ((SC.below hb).row) hv' (fun a ha e => by have := SC.row.lt a.block (by rw [ha]; rfl); omega) hft.1 hft.2 (by have := HN.out; omega)
        rw [HN.out, hl'] at this
        exact this)
      have c0 := SC.cells.1
      rw [HN.out] at c0
      have o0 : wc.cell? ⟨ob, 0, none⟩ = some (.int .i64 u) := (cell_of P6.out 0).trans rfl
      have o1 : wc.cell? ⟨ob, 1, none⟩ = some (.int .i64 v) := (cell_of P6.out 1).trans rfl
      have SBW := Aside0.mk (show ∀ W5 : World, W5 = (wc.alloc (.cells #[.int .i64 u, .int .i64 v] 30)).drew → ∀ w6, Only (fun k => some k = rb A) W5 w6 → w6.heap[sb]? = some (.cells #[.slice A n c, .int .i64 f] 26 (0, 0)) ∧ Only (fun k => some k = rb A) wc w6 from fun W5 e w6 ho => by
        subst e
        have hb : Below wc.heap.size wc ((wc.alloc (.cells #[.int .i64 u, .int .i64 v] 30)).drew) := below_drew (below_alloc (Below.refl _ _) _)
        have h1 := (SC.below hb).hp
        rw [HN.out] at h1
        refine ⟨(ho.block sb (SC.below hb).lt (fun e => ?_)).trans h1, (Only.of_below hb).trans ho⟩
        rcases A with _ | a
        · cases e
        · injection e with e; exact SC.ne a rfl e.symm)
      have c0a : (wc.alloc (.cells #[.int .i64 u, .int .i64 v] 30)).cell? ⟨sb, 0, none⟩ = some (.slice A n c) := (World.cell?_alloc_lt _ _ _ SC.lt).trans c0
      have HN' := Aside0.mk hn'
      have HFT := Aside0.mk hft
      have HSC := Aside0.mk SC
      have hfm : Try.prog.follows .mixedOrders = true := by kernel_rfl
      clear hft SC hl' hn'
      go_upto_region 10 with fail
      go_region_law_o (go_simp; go_at_call 19; refine (RP.out _ (by rfl)).mono ?_; rintro e6 w6 ⟨A', c', rfl, hr, ho, ha⟩; obtain ⟨h6, ho6⟩ := SBW.out _ (by rfl) w6 ho; simp only [HN'.out]; have y0 : w6.cell? ⟨sb, 0, none⟩ = some (.slice A n c) := (cell_of h6 0).trans rfl; have y1 := frozen_of h6 0; have HR6 := Aside0.mk hr; have HO6 := Aside0.mk ho6; have HA6 := Aside0.mk ha; have H6 := Aside0.mk h6; clear hr ho ho6 ha h6)
      all_goals
        have BWC : Below W.heap.size W wc := B4.out.trans (OX6.out.below B4.out.size (fun k q => by subst q; exact HOB.out))
        have NE : ∀ a, A' = some a → a.block ≠ sb := by
          intro a ha
          rcases HA6.out with e | ⟨b, e, hb⟩
          · exact HSC.out.ne a (e ▸ ha)
          · rw [e] at ha
            injection ha with ha
            rw [← ha]
            have h1 := HSC.out.lt
            have h2 : (wc.alloc (.cells #[.int .i64 u, .int .i64 v] 30)).drew.heap.size = wc.heap.size + 1 := World.size_alloc _ _
            show b ≠ sb
            omega
        have AL : rb A' = rb A ∨ ∀ k, rb A' = some k → W.heap.size ≤ k := by
          rcases HA6.out with e | ⟨b, e, hb⟩
          · exact .inl (by rw [e])
          · refine .inr fun k hk => ?_
            rw [e] at hk
            injection hk with hk
            have h1 := BWC.size
            have h2 : (wc.alloc (.cells #[.int .i64 u, .int .i64 v] 30)).drew.heap.size = wc.heap.size + 1 := World.size_alloc _ _
            rw [← hk]
            show W.heap.size ≤ b
            omega
        have H7 : (w6.setCell ⟨sb, 0, none⟩ (.slice A' n' c')).heap[sb]? = some (.cells #[.slice A' n' c', .int .i64 f] 26 (0, 0)) := by
          rw [heap_setCell_at H6.out]; rfl
        have R7 : Row (w6.setCell ⟨sb, 0, none⟩ (.slice A' n' c')) A' c' l' := HR6.out.move (fun k e => Below.heap_setCell _ _ _ _ (fun q => by
          rcases A' with _ | a
          · cases e
          · injection e with e; exact NE a rfl (e.trans q)))
        have O7 : Only (fun k => k = sb ∨ some k = rb A) W (w6.setCell ⟨sb, 0, none⟩ (.slice A' n' c')) :=
          (((Only.of_below BWC).trans (HO6.out.imp (fun k _ q => .inr q))).setCell (ad := ⟨sb, 0, none⟩) (.inl rfl) _)
        generalize w6.setCell ⟨sb, 0, none⟩ (.slice A' n' c') = W7 at H7 R7 O7 ⊢
        have d0 : W7.cell? ⟨sb, 0, none⟩ = some (.slice A' n' c') := (cell_of H7 0).trans rfl
        have hlen : 32 < (put l x).length ↔ 32 < n' := by rw [HPUT.out, HN'.out]
        have hadd : addS l f x = if 32 < n' then (true, l'.drop 1, (l'.getD 0 (0, 0)).2 + 1) else (true, l', f) := by
          unfold addS
          rw [if_pos HM.out, HPUT.out, HN'.out]
        clear y0 y1 c0 c0a o0 o1 hlen
        by_cases h32 : 32 < n'
        · rw [if_pos h32] at hadd
          obtain ⟨b, off, hA', x1, x2⟩ := R7.get 0 (by rw [HN'.out]; omega)
          have hR7 : RowAt W7 b off c' l' := by
            rcases R7 with ⟨e, _⟩ | ⟨b', off', e, h⟩
            · rw [e] at hA'; cases hA'
            · rw [e] at hA'; injection hA' with q; injection q with q1 q2; subst q1 q2; exact h
          obtain ⟨s0, l'', hl''⟩ : ∃ s0 l'', l' = s0 :: l'' := by
            rcases l' with _ | ⟨s0, l''⟩
            · have := HN'.out; simp at this; omega
            · exact ⟨s0, l'', rfl⟩
          subst hl''
          obtain ⟨s1, s2⟩ := s0
          simp only [List.getElem_cons_zero, Nat.zero_mul, Nat.add_zero] at x2
          have hs2 : 0 ≤ s2 ∧ s2 ≤ 4611686018427387903 := by
            have := put_bd HBD.out H1.out (s1, s2) (by rw [HPUT.out]; exact List.mem_cons_self)
            exact this
          have hle := hR7.le
          obtain ⟨c'', rfl⟩ : ∃ y, c' = y + 1 := ⟨c' - 1, by rw [HN'.out] at hle; omega⟩
          obtain ⟨n'', rfl⟩ : ∃ y, n' = y + 1 := ⟨n' - 1, by omega⟩
          have hln : l''.length = n'' := by have := HN'.out; simp at this; exact this
          have hD := hR7.drop1
          subst hA'
          have hbs : b ≠ sb := NE _ rfl
          have H8 : ((W7.setCell ⟨sb, 1, none⟩ (.int .i64 (s2 + 1))).setCell ⟨sb, 0, none⟩ (.slice (some ⟨b, off + 2, none⟩) n'' c'')).heap[sb]? = some (.cells #[.slice (some ⟨b, off + 2, none⟩) l''.length c'', .int .i64 (s2 + 1)] 26 (0, 0)) := by
            rw [heap_setCell_at (heap_setCell_at H7), hln]; rfl
          have R8 : RowAt ((W7.setCell ⟨sb, 1, none⟩ (.int .i64 (s2 + 1))).setCell ⟨sb, 0, none⟩ (.slice (some ⟨b, off + 2, none⟩) n'' c'')) b (off + 2) c'' l'' :=
            hD.move ((Below.heap_setCell _ _ _ _ hbs).trans (Below.heap_setCell _ _ _ _ hbs))
          have O8 := (O7.setCell (ad := ⟨sb, 1, none⟩) (.inl rfl) (.int .i64 (s2 + 1))).setCell (ad := ⟨sb, 0, none⟩) (.inl rfl) (.slice (some ⟨b, off + 2, none⟩) n'' c'')
          have HP := Aside0.mk (show Added W sb A l f x (.returned (.bool true)) ((W7.setCell ⟨sb, 1, none⟩ (.int .i64 (s2 + 1))).setCell ⟨sb, 0, none⟩ (.slice (some ⟨b, off + 2, none⟩) n'' c'')) from
            ⟨some ⟨b, off + 2, none⟩, c'', by rw [hadd], by rw [hadd]; exact ⟨H8, .inr ⟨b, off + 2, rfl, R8⟩, fun a ha => by injection ha with ha; rw [← ha]; exact hbs⟩, O8, AL, by rw [hadd]; intro q; cases q⟩)
          have d1 : W7.cell? ⟨sb, 1, none⟩ = some (.int .i64 f) := (cell_of H7 1).trans rfl
          have z0 := frozen_of H7 0
          have z1 := frozen_of H7 1
          have q1 : decide ((32 : Int) < ((n'' + 1 : Nat) : Int)) = true := decide_eq_true (by omega)
          have q2 : decide (32 < n'' + 1) = true := decide_eq_true h32
          have q7 : (32 : Int) < (n'' : Int) + 1 := by omega
          have q8 : decide ((32 : Int) < (n'' : Int) + 1) = true := decide_eq_true q7
          have q9 : 32 ≤ n'' := by omega
          have q10 : decide (32 ≤ n'') = true := decide_eq_true q9
          have q3 : ¬ (c'' + 1 = 1) := by rw [HN'.out] at hle; omega
          have q4 : 1 ≤ n'' + 1 := by omega
          have q5 : ¬ (c'' = 0) := by rw [HN'.out] at hle; omega
          have q6 : 0 < n'' + 1 := by omega
          clear hadd H7 R7 O7 NE AL BWC h32 H8 R8 O8 hD hR7 hle hln x1 hbs
          go_wp2
          go_ret
          exact HP.out
        · rw [if_neg h32] at hadd
          have HP := Aside0.mk (show Added W sb A l f x (.returned (.bool true)) W7 from
            ⟨A', c', by rw [hadd], by rw [hadd]; exact ⟨by rw [HN'.out]; exact H7, R7, NE⟩, O7, AL, by rw [hadd]; intro q; cases q⟩)
          have q1 : decide ((32 : Int) < (n' : Int)) = false := decide_eq_false (by omega)
          have q2 : decide (32 < n') = false := decide_eq_false h32
          clear hadd H7 R7 O7 NE AL BWC h32
          go_wp2
          go_ret
          exact HP.out

/-- Add, whole. -/
theorem add_calls {W : World} {sb : Nat} {A : Option Addr} {c : Nat} {f x : Int} {l : List Spn} (hS : St W sb A c f l) (hA : Asc l) (hBd : Bd l) (hl : l.length ≤ 100) :
    Calls Try.prog 7 #[.pointer (some ⟨sb, 0, none⟩), .int .i64 x] W (Added W sb A l f x) := by
  cases hm : may l f x with
  | true => exact add_yes hS hA hBd hl hm
  | false => exact add_no hS hA (by omega) hm
end Go.Proofs.Ytpihkmpcnkhnfaa.Sp
