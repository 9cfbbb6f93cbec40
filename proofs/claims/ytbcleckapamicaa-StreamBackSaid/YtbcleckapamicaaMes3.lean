/- stream.Messages, walked. -/
import Derived.Test.YtbcleckapamicaaMes2
namespace Go.Proofs.Ytbcleckapamicaa.Mes
open Go Go.RowKit Go.Shelf Go.Proofs.YtbcleckapamicaaW.PrintWords Go.Proofs.YtbcleckapamicaaW.PrintLast Go.Proofs.YtbcleckapamicaaW.PrintMore
attribute [local go_sem] Oper.semAt_some
open Go.Proofs.Ytbcleckapamicaa.Stm (Bytes bytes_rd mlen info5 Only)
open Go.Proofs.Ytbcleckapamicaa.Rng
set_option linter.unusedVariables false
set_option linter.unusedSimpArgs false

set_option maxHeartbeats 4000000 in
set_option maxRecDepth 100000 in
theorem messages_calls (w : World) (A : Option Addr) (c : Nat) (b : List Int) (hC : Kd.C (Kd.int .u8) w A b.length b) (hc : b.length ≤ c) (hl : b.length ≤ 100000) (hB : Bytes b) :
    Calls Try.prog 30 #[.slice A b.length c] w fun e w' => Below w.heap.size w w' ∧
      ((mesF b = none ∧ e = .returned (.tuple #[.slice none 0 0, .bool false])) ∨ (∃ ms v, mesF b = some ms ∧ e = .returned (.tuple #[v, .bool true]) ∧ KS w' w.heap.size (fun _ => True) v ms)) := by
  refine (callsIn_wide (n := 3)).1 ?_
  refine callsIn_of_wp_marks Try.func30 rfl trivial ?_ rfl
  simp only [Try.ntmps30, List.size_toArray, List.length_cons, List.length_nil, Nat.reduceAdd, Nat.reduceSub, Array.replicate_succ, Array.replicate_zero, List.push_toArray, List.append_toArray, List.nil_append, List.cons_append]
  gi_wp2_with (first
    | (refine ⟨trivial, ?_⟩; gi_at_call 53; refine (callsIn_wide.2 (maker_calls _ _ _ _)).mono ?_; rintro e_ w1 ⟨rfl, rfl⟩)
    | (gi_at_call 53; refine (callsIn_wide.2 (maker_calls _ _ _ _)).mono ?_; rintro e_ w1 ⟨rfl, rfl⟩))
  refine open_range rfl (by omega) trivial (gf := 66) (lb := #[.pointer (some ⟨w.heap.size + 1 + 1 + 1, 0, none⟩)]) rfl (enters_of Try.func66 (by kernel_rfl) rfl) ?_
  intro fn rec W1 _ hrec hW1
  have HREC := Aside0.mk hrec
  clear hrec
  simp only [World.size_alloc, Nat.reduceSub, List.append_toArray, List.cons_append, List.nil_append] at hW1 HREC ⊢
  obtain ⟨H1, e1⟩ : ∃ H1, w.heap.size + 1 = H1 := ⟨_, rfl⟩
  rw [e1] at HREC ⊢
  obtain ⟨H2, e2⟩ : ∃ H2, H1 + 1 = H2 := ⟨_, rfl⟩
  rw [e2] at HREC ⊢
  obtain ⟨Bn, e3⟩ : ∃ Bn, H2 + 1 = Bn := ⟨_, rfl⟩
  rw [e3] at HREC ⊢
  obtain ⟨D, e4⟩ : ∃ D, Bn + 1 = D := ⟨_, rfl⟩
  rw [e4]
  obtain ⟨L, e5⟩ : ∃ L, D + 1 = L := ⟨_, rfl⟩
  rw [e5]
  obtain ⟨E, e6⟩ : ∃ E, L + 1 = E := ⟨_, rfl⟩
  have lay : w.heap.size < H1 ∧ H1 < H2 ∧ H2 < D ∧ D < E := by omega
  have hsz : W1.heap.size = E := by rw [hW1]; simp only [World.size_alloc]; omega
  have f0 : Boxed W1 w.heap.size 60 (.slice none 0 0) := by
    rw [hW1]
    exact (((((Boxed.new w 60 (.slice none 0 0)).alloc _).alloc _).alloc _).alloc _).alloc _
  have f1 : Boxed W1 H1 4 (.bool false) := by
    have h := Boxed.new (w.alloc (.cells #[.slice none 0 0] 60)) 4 (.bool false)
    rw [World.size_alloc, e1] at h
    rw [hW1]
    exact (((h.alloc _).alloc _).alloc _).alloc _
  have f2 : Boxed W1 H2 60 (.slice none 0 0) := by
    have h := Boxed.new ((w.alloc (.cells #[.slice none 0 0] 60)).alloc (.cells #[.bool false] 4)) 60 (.slice none 0 0)
    rw [World.size_alloc, World.size_alloc, e1, e2] at h
    rw [hW1]
    exact ((h.alloc _).alloc _).alloc _
  have f3 : Boxed W1 Bn 44 (.slice A b.length c) := by
    have h := Boxed.new (((w.alloc (.cells #[.slice none 0 0] 60)).alloc (.cells #[.bool false] 4)).alloc (.cells #[.slice none 0 0] 60)) 44 (.slice A b.length c)
    rw [World.size_alloc, World.size_alloc, World.size_alloc, e1, e2, e3] at h
    rw [hW1]
    exact (h.alloc _).alloc _
  have f4 : W1.heap[D]? = some (.deferred (some [])) := by
    have h := World.alloc_heap_new ((((w.alloc (.cells #[.slice none 0 0] 60)).alloc (.cells #[.bool false] 4)).alloc (.cells #[.slice none 0 0] 60)).alloc (.cells #[.slice A b.length c] 44)) (.deferred (some []))
    rw [World.size_alloc, World.size_alloc, World.size_alloc, World.size_alloc, e1, e2, e3, e4] at h
    rw [hW1]
    exact (Below.heap_alloc _ _ _ (by simp only [World.size_alloc]; omega)).trans h
  have f5 : W1.heap[L]? = some (.loop (rec .ready none)) := by
    have h := World.alloc_heap_new (((((w.alloc (.cells #[.slice none 0 0] 60)).alloc (.cells #[.bool false] 4)).alloc (.cells #[.slice none 0 0] 60)).alloc (.cells #[.slice A b.length c] 44)).alloc (.deferred (some []))) (.loop (rec .ready none))
    rw [World.size_alloc, World.size_alloc, World.size_alloc, World.size_alloc, World.size_alloc, e1, e2, e3, e4, e5] at h
    rw [hW1]
    exact h
  have fb : Below w.heap.size w W1 := by
    rw [hW1]
    exact below_alloc (below_alloc (below_alloc (below_alloc (below_alloc (below_alloc (Below.refl _ _) _) _) _) _) _) _
  clear hW1
  have LL : Bn < L ∧ H2 < Bn ∧ Bn < D ∧ L < E ∧ D < L := by omega
  have LY := Aside0.mk lay
  have LX := Aside0.mk LL
  have OM0 := Aside0.mk (show Om w H1 H2 D E (.slice none 0 0) [] W1 from ⟨fb, f0, f1, f2, Kd.S_nil _ _ _ _ _, f4, by omega⟩)
  have F5 := Aside0.mk f5
  have F3 := Aside0.mk f3
  have HC := Aside0.mk hC
  have HB := Aside0.mk hB
  have HL := Aside0.mk hl
  have hBn : w.heap.size ≤ Bn := by omega
  clear f0 f1 f2 f3 f4 f5 fb hsz e1 e2 e3 e4 e5 e6 lay LL hC hB hl
  refine (each_calls L Bn w b HL.out HB.out (fun ms W => ∃ v, Om w H1 H2 D E v ms W ∧ W.heap[L]? = some (.loop (rec .ready none)))
    (fun ms W => Below w.heap.size w W ∧ Boxed W w.heap.size 60 (.slice none 0 0) ∧ Boxed W H1 4 (.bool false) ∧ W.heap[L]? = some (.loop (rec .done (some .ret))) ∧ W.heap[D]? = some (.deferred (some [])))
    ?jbb ?jss ?j00 hBn ?yyy ?nnn W1 A c F3.out HC.out hc ⟨_, OM0.out, F5.out⟩).mono ?_
  case jbb =>
    rintro ms W W' ⟨v, h, hr⟩ hb
    exact ⟨v, h.only LY.out (Only.of_below hb : Only (fun _ => False) W W') (fun _ q => q.elim), (hb.block L (Array.getElem?_eq_some_iff.1 hr).1).trans hr⟩
  case jss =>
    rintro ms W u ⟨v, h, hr⟩
    have hL := LX.out
    exact ⟨v, h.only LY.out (only_setCell W Bn u) (fun k q => by omega), ((only_setCell W Bn u).block L (Array.getElem?_eq_some_iff.1 hr).1 (by omega)).trans hr⟩
  case j00 =>
    rintro ms W ⟨v, h, hr⟩
    exact h.bl
  case yyy =>
    rintro ms m Wc W A2 c2 u ⟨v, hO, hr⟩ hb hR hm0 hm1 hms hbx
    have hL := LX.out
    have hlt : L < Wc.heap.size := (Array.getElem?_eq_some_iff.1 hr).1
    have hr1 := (hb.block L hlt).trans hr
    have hO1 := hO.only LY.out (Only.of_below hb : Only (fun _ => False) Wc W) (fun _ q => q.elim)
    have hvb : ∀ k, v.ownBlock = some k → k < Wc.heap.size := Kd.S_lt hO.R
    have hS0 := hO.R
    have hbe := hb
    refine ⟨fn, _, _, _, HREC.out.yield hr1 rfl, roundIn_of_wpIn trivial ?_⟩
    have HR1 := Aside0.mk hr1
    have HS0 := Aside0.mk hS0
    have HBE := Aside0.mk hbe
    clear hS0 hbe
    obtain ⟨k, hk⟩ : ∃ k, m.length = k := ⟨_, rfl⟩
    have HK := Aside0.mk hk
    rw [hk] at hm0 hm1 hR ⊢
    have HO1 := Aside0.mk hO1
    have HRm := Aside0.mk hR
    have HBx := Aside0.mk hbx
    have HVB := Aside0.mk hvb
    have HLT := Aside0.mk hlt
    have HSZ := Aside0.mk hb.size
    have HOS := Aside0.mk hO.sz
    have HMS := Aside0.mk hms
    have LX' := Aside0.mk hL
    clear hr1 hk hO1 hO hR hbx hvb hlt hb hms hr hL
    simp only [List.zip_toArray, List.zip_cons_cons, List.zip_nil_right, List.foldl_toArray, List.foldl_cons, List.foldl_nil, List.setIfInBounds_toArray, List.set_cons_succ, List.set_cons_zero]
    gi_wp2
    refine ⟨_, HREC.out.begin_ HR1.out, ?_⟩
    obtain ⟨W2, hW2⟩ : ∃ W2, W.putObj L (.loop (rec .busy none)) = W2 := ⟨_, rfl⟩
    rw [hW2]
    have ho2 := only_putObj W L (.loop (rec .busy none))
    rw [hW2] at ho2
    have HO2 := Aside0.mk (HO1.out.only LY.out ho2 (fun k q => by have := LX.out; omega))
    have HR2 := Aside0.mk (show W2.heap[L]? = some (.loop (rec .busy none)) by rw [← hW2]; exact World.putObj_heap_same (Array.getElem?_eq_some_iff.1 HR1.out).1)
    have HRm2 := Aside0.mk (R_only HRm.out ho2 (fun k q => by have := LX.out; have := HOS.out; omega))
    have HB2 := Aside0.mk (boxed_only HBx.out ho2 (by have := LX.out; omega))
    have HSZ2 := Aside0.mk ho2.size
    have HSO := Aside0.mk (S_old HS0.out (((Only.of_below HBE.out : Only (fun j => j = L) Wc W)).trans ho2) (fun j q => by have := LX.out; omega))
    clear ho2 hW2 HO1 HRm HBx HR1
    have c1 := HO2.out.o.cell
    have q0 : ((k : Int) == 0) = false := by simp; omega
    have q1 : decide (k = 0) = false := by simp; omega
    have Hm0 := Aside0.mk hm0
    clear hm0
    gi_wp2_with ((gi_at_builtin; refine S_append_in KR (W := W2) E rfl (.tmp 12) (.tmp 14) 60 44 (.slice none 0 0) 24 rfl Try.underlying60 info44 rfl (by decide) (by omega) v ms m [.slice A2 k c2] (fun _ => True) (fun j => Wc.heap.size ≤ j) rfl rfl ?aP ?aQ (fun _ _ => trivial) HSO.out ?aS ?aL ?_; (case aP => exact Kd.M_row (Kd.R_lower (Kd.R_mono (Kd.R_bound HRm2.out) (fun j hj => hj.2.1)) HOS.out)); (case aQ => exact (fun j hj => ⟨trivial, fun e => by have := HVB.out j e.symm; omega⟩)); (case aS => exact HO2.out.sz); (case aL => have := HMS.out; omega); intro v1 w1 hR1 hg1; obtain ⟨A9, c9, e9⟩ := Kd.R_slice (Kd.S_R hR1); obtain ⟨n9, hn9⟩ : ∃ n9, (ms ++ [m]).length = n9 := ⟨_, rfl⟩; rw [hn9] at e9; clear hn9; subst e9; have HG := Aside0.mk (HO2.out.grown LY.out hR1 hg1); have c2_ := HG.out.1.cell; have f2_ := HG.out.1.frozen; clear hR1 hg1 c1))
    have HE3 := HG.out.2.2
    have ho3 := HG.out.2.1
    have hr3 := (HE3 L LX.out.2.2.2.1 (by have := LX.out; omega)).trans HR2.out
    have hb3 : Boxed _ Bn 44 u := (HE3 Bn (by have := LX.out; omega) (by have := LX.out; omega)).trans HB2.out
    refine ⟨_, _, HREC.out.end_ none hr3, rfl, ⟨_, ho3.only LY.out (only_putObj _ _ _) (fun k q => by have := LX.out; omega), World.putObj_heap_same (Array.getElem?_eq_some_iff.1 hr3).1⟩, boxed_only hb3 (only_putObj _ _ _) (by have := LX.out; omega)⟩
  case nnn =>
    rintro ms W ⟨v, hO, hr⟩
    have hL := LX.out
    refine ⟨fn, _, _, _, HREC.out.yield hr rfl, roundIn_of_wpIn trivial ?_⟩
    obtain ⟨W2, hW2⟩ : ∃ W2, W.putObj L (.loop (rec .busy none)) = W2 := ⟨_, rfl⟩
    have ho2 := only_putObj W L (.loop (rec .busy none))
    rw [hW2] at ho2
    have hO2 := hO.only LY.out ho2 (fun k q => by omega)
    have HO2 := Aside0.mk hO2
    have HR2 := Aside0.mk (show W2.heap[L]? = some (.loop (rec .busy none)) by rw [← hW2]; exact World.putObj_heap_same (Array.getElem?_eq_some_iff.1 hr).1)
    have HRr := Aside0.mk hr
    have HW2 := Aside0.mk hW2
    have c0 := hO2.r0.cell
    have g0 := hO2.r0.frozen
    have c1 : (W2.setCell ⟨w.heap.size, 0, none⟩ (.slice none 0 0)).cell? ⟨H1, 0, none⟩ = some (.bool false) := (World.cell?_setCell_other _ _ _ _ (fun e => by have := LY.out; injection e with e; omega)).trans hO2.r1.cell
    have g1 : (W2.setCell ⟨w.heap.size, 0, none⟩ (.slice none 0 0)).frozen? ⟨H1, 0, none⟩ = false := by rw [World.frozen?_setCell]; exact hO2.r1.frozen
    clear hL ho2 hO2 hO hr hW2
    simp only [List.zip_toArray, List.zip_cons_cons, List.zip_nil_right, List.foldl_toArray, List.foldl_cons, List.foldl_nil, List.setIfInBounds_toArray, List.set_cons_succ, List.set_cons_zero]
    gi_wp2
    refine ⟨_, HREC.out.begin_ HRr.out, ?_⟩
    rw [HW2.out]
    gi_wp2
    have hL := LX.out
    have hY := LY.out
    have s1 := only_setCell W2 w.heap.size (.slice none 0 0)
    have s2 := only_setCell (W2.setCell ⟨w.heap.size, 0, none⟩ (.slice none 0 0)) H1 (.bool false)
    have hs : ∀ k, k < E → k ≠ w.heap.size → k ≠ H1 → ((W2.setCell ⟨w.heap.size, 0, none⟩ (.slice none 0 0)).setCell ⟨H1, 0, none⟩ (.bool false)).heap[k]? = W2.heap[k]? := fun k hk a b =>
      (s2.block k (by have := s1.size; have := HO2.out.sz; omega) b).trans (s1.block k (by have := HO2.out.sz; omega) a)
    have hr3 := (hs L hL.2.2.2.1 (by omega) (by omega)).trans HR2.out
    refine ⟨_, _, HREC.out.end_ (some .ret) hr3, rfl, ?_, ?_, ?_, World.putObj_heap_same (Array.getElem?_eq_some_iff.1 hr3).1, ?_⟩
    · exact (((HO2.out.bl.setCell (p := ⟨w.heap.size, 0, none⟩) (Nat.le_refl _) _).setCell (p := ⟨H1, 0, none⟩) (by show w.heap.size ≤ H1; omega) _)).trans ((only_putObj _ L _).below (Nat.le_trans HO2.out.bl.size (Nat.le_trans s1.size s2.size)) (fun k q => by omega))
    · exact boxed_only (boxed_only (HO2.out.r0.set _) s2 (by omega)) (only_putObj _ _ _) (by omega)
    · exact boxed_only ((boxed_only HO2.out.r1 s1 (by omega)).set _) (only_putObj _ _ _) (by omega)
    · exact (World.putObj_heap_other (by omega)).trans ((hs D (by omega) (by omega) (by omega)).trans HO2.out.df)
  rintro e W2 ⟨⟨v, rfl⟩, (⟨ms, hF, v2, hO, hr⟩ | ⟨hF, ms, hb, h0, h1, hr, hd⟩)⟩
  · refine ⟨none, _, HREC.out.endLoop hr (by simp), ?_⟩
    have hL := LX.out
    have hO3 := hO.only LY.out (only_putObj W2 L (.loop (rec .exhausted none))) (fun k q => by omega)
    generalize W2.putObj L (.loop (rec .exhausted none)) = W3 at hO3
    clear hr hO
    obtain ⟨A9, c9, e9⟩ := Kd.R_slice (Kd.S_R hO3.R)
    obtain ⟨n9, hn9⟩ : ∃ n9, ms.length = n9 := ⟨_, rfl⟩
    rw [hn9] at e9
    have HN := Aside0.mk hn9
    clear hn9
    subst e9
    have HO3 := Aside0.mk hO3
    have c2 := hO3.o.cell
    have c0 := hO3.r0.cell
    have g0 := hO3.r0.frozen
    have c1 : (W3.setCell ⟨w.heap.size, 0, none⟩ (.slice A9 n9 c9)).cell? ⟨H1, 0, none⟩ = some (.bool false) := (World.cell?_setCell_other _ _ _ _ (fun e => by have := LY.out; injection e with e; omega)).trans hO3.r1.cell
    have g1 : (W3.setCell ⟨w.heap.size, 0, none⟩ (.slice A9 n9 c9)).frozen? ⟨H1, 0, none⟩ = false := by rw [World.frozen?_setCell]; exact hO3.r1.frozen
    have HF := Aside0.mk hF
    clear hL hO3 hF
    gi_wp2
    have hL := LX.out
    have hY := LY.out
    have s1 := only_setCell W3 w.heap.size (.slice A9 n9 c9)
    have s2 := only_setCell (W3.setCell ⟨w.heap.size, 0, none⟩ (.slice A9 n9 c9)) H1 (.bool true)
    have hE := HO3.out.sz
    have x0 := boxed_only (HO3.out.r0.set (.slice A9 n9 c9)) s2 (by omega)
    have x1 := (boxed_only HO3.out.r1 s1 (by omega)).set (.bool true)
    have hR4 := S_only (S_only HO3.out.R s1 (fun k q => by omega)) s2 (fun k q => by omega)
    have hb4 := (HO3.out.bl.setCell (p := ⟨w.heap.size, 0, none⟩) (Nat.le_refl _) (.slice A9 n9 c9)).setCell (p := ⟨H1, 0, none⟩) (by show w.heap.size ≤ H1; omega) (.bool true)
    have hd4 : ((W3.setCell ⟨w.heap.size, 0, none⟩ (.slice A9 n9 c9)).setCell ⟨H1, 0, none⟩ (.bool true)).heap[D]? = some (.deferred (some [])) :=
      (s2.block D (by have := s1.size; omega) (by omega)).trans ((s1.block D (by omega) (by omega)).trans HO3.out.df)
    have hz : E ≤ ((W3.setCell ⟨w.heap.size, 0, none⟩ (.slice A9 n9 c9)).setCell ⟨H1, 0, none⟩ (.bool true)).heap.size := by have := s1.size; have := s2.size; omega
    clear c0 c1 c2 g0 g1 s1 s2
    generalize (W3.setCell ⟨w.heap.size, 0, none⟩ (.slice A9 n9 c9)).setCell ⟨H1, 0, none⟩ (.bool true) = W4 at *
    have s5 := only_putObj W4 D (.deferred none)
    have y0 := (boxed_only x0 s5 (by omega)).cell
    have y1 := (boxed_only x1 s5 (by omega)).cell
    refine ⟨by simp, .inl ⟨D, _, rfl, run_takeDeferred hd4, .tuple #[.slice A9 n9 c9, .bool true], ?_, ?_⟩⟩
    · clear x0 x1 hR4 hb4 hd4 hz hE s5 hL hY
      generalize W4.putObj D (.deferred none) = W5 at *
      simp [results, Try.results30, go_sem, y0, y1]
    · refine ⟨hb4.trans (s5.below hb4.size (fun k q => by omega)), .inr ⟨ms, _, HF.out, rfl, Kd.S_lower (S_only hR4 s5 (fun k q => by omega)) (by omega)⟩⟩
  · refine ⟨some .ret, _, HREC.out.endLoop hr (by simp), ?_⟩
    have hL := LX.out
    have hY := LY.out
    have s4 := only_putObj W2 L (.loop (rec .exhausted (some .ret)))
    have x0 := boxed_only h0 s4 (by omega)
    have x1 := boxed_only h1 s4 (by omega)
    have hd4 := (s4.block D (Array.getElem?_eq_some_iff.1 hd).1 (by omega)).trans hd
    have hb4 := hb.trans (s4.below hb.size (fun k q => by omega))
    clear hr h0 h1 hd hb s4
    generalize W2.putObj L (.loop (rec .exhausted (some .ret))) = W4 at *
    have X0 := Aside0.mk x0
    have X1 := Aside0.mk x1
    have HD4 := Aside0.mk hd4
    have HB4 := Aside0.mk hb4
    have HF := Aside0.mk hF
    clear x0 x1 hd4 hb4 hL hY hF
    gi_wp2
    have hL := LX.out
    have hY := LY.out
    have s5 := only_putObj W4 D (.deferred none)
    have y0 := (boxed_only X0.out s5 (by omega)).cell
    have y1 := (boxed_only X1.out s5 (by omega)).cell
    have hb4 := HB4.out
    refine ⟨by simp, .inl ⟨D, _, rfl, run_takeDeferred HD4.out, .tuple #[.slice none 0 0, .bool false], ?_, ?_⟩⟩
    · clear s5 hL hY hb4
      generalize W4.putObj D (.deferred none) = W5 at *
      simp [results, Try.results30, go_sem, y0, y1]
    · exact ⟨hb4.trans (s5.below hb4.size (fun k q => by omega)), .inl ⟨HF.out, rfl⟩⟩
end Go.Proofs.Ytbcleckapamicaa.Mes
