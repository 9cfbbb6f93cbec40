/- VarintTakes: its function, walked by hand: at bytes it answers true. -/
import Derived.Test.YtbcleckapamicaaDoorTkP
namespace Go.Proofs.YtbcleckapamicaaDoor.QTk
open Go.RowKit Go.Proofs.YtbcleckapamicaaDoorW.PrintWords Go.Proofs.YtbcleckapamicaaDoorW.PrintLast Go.Proofs.YtbcleckapamicaaDoorW.PrintMore
open Go.Proofs.YtbcleckapamicaaDoor.Gv (TB TB.below TB.alloc TB.drew TB.drewN)
open Go.Proofs.YtbcleckapamicaaDoor.Tk (shibbolethref01_Take.f shibbolethref01_Take.calls)
open Go.Proofs.YtbcleckapamicaaDoor.QVa Go.Proofs.YtbcleckapamicaaDoor.Vn Go.Proofs.YtbcleckapamicaaDoor.VaP Go.Proofs.YtbcleckapamicaaDoor.TkP
set_option linter.unusedVariables false
set_option linter.unusedSimpArgs false

theorem give_f' (l p : List Int) (hl : l.length ≤ 100000) (hp : p.length ≤ 100000) (k : Nat) (hk : 9 < k) : varint_Give.f k l p = some (l ++ vbytes p.length ++ p) := by
  have h8 := vbytes_le (p.length : Int)
  unfold varint_Give.f
  rw [append_f l _ (by omega) k hk]
  simp only [Option.bind_some]
  rw [if_pos (by rw [List.length_append]; omega)]
theorem rgive_f (p : List Int) (hp : p.length ≤ 100000) (k : Nat) (hk : 30 < k) : shibbolethref01_Give.f k p = some (vbytes p.length ++ p) := by
  have h8 := vbytes_le (p.length : Int)
  unfold shibbolethref01_Give.f
  rw [bytes_f _ k hk]
  simp only [Option.bind_some]
  rw [if_pos (by omega)]
/-! ### shibbolethlaw01_VarintTakes: function 7 -/
def shibbolethlaw01_VarintTakes.f (l0 l1 : List Int) : Option Bool := if Bytes l0 ∧ Bytes l1 then some true else none
set_option maxHeartbeats 8000000 in
set_option maxRecDepth 100000 in
theorem shibbolethlaw01_VarintTakes.calls (A0 : Option Addr) (c0 : Nat) (l0 : List Int) (A1 : Option Addr) (c1 : Nat) (l1 : List Int) (r : Bool) (w : World) (hr0 : Kd.C (Kd.int .u8) w A0 l0.length l0) (hc0 : l0.length ≤ c0) (hr1 : Kd.C (Kd.int .u8) w A1 l1.length l1) (hc1 : l1.length ≤ c1) (ht : TB w) (h : shibbolethlaw01_VarintTakes.f l0 l1 = some r) :
    Calls Tryd.prog 7 #[.slice A0 l0.length c0, .slice A1 l1.length c1] w fun e w' => e = .returned (.bool r) ∧ Below w.heap.size w w' := by
  obtain ⟨hB0, rfl⟩ : Bytes l0 ∧ r = true := by
    unfold shibbolethlaw01_VarintTakes.f at h
    split at h
    · rename_i q; exact ⟨q.1, (Option.some.inj h).symm⟩
    · cases h
  clear h
  have HT := Aside0.mk ht
  have HR0 := Aside0.mk hr0
  have HC0 := Aside0.mk hc0
  have HR1 := Aside0.mk hr1
  have HC1 := Aside0.mk hc1
  clear ht hr0 hc0 hr1 hc1
  by_cases h0 : 1000 < (l0.length : Int)
  · have d0 : decide (1000 < (l0.length : Int)) = true := decide_eq_true h0
    have d1 : decide (1000 < l0.length) = true := decide_eq_true (by omega)
    clear h0 hB0
    go_enter Tryd.func7, Tryd.ntmps7
    go_wp2
    go_ret
    exact ⟨rfl, Below.refl _ _⟩
  by_cases h1 : 1000 < (l1.length : Int)
  · have d0 : decide (1000 < (l0.length : Int)) = false := decide_eq_false h0
    have d1 : decide (1000 < l0.length) = false := decide_eq_false (by omega)
    have d2 : decide (1000 < (l1.length : Int)) = true := decide_eq_true h1
    have d3 : decide (1000 < l1.length) = true := decide_eq_true (by omega)
    clear h0 h1 hB0
    go_enter Tryd.func7, Tryd.ntmps7
    go_wp2
    go_ret
    exact ⟨rfl, Below.refl _ _⟩
  have d0 : decide (1000 < (l0.length : Int)) = false := decide_eq_false h0
  have d1 : decide (1000 < l0.length) = false := decide_eq_false (by omega)
  have d2 : decide (1000 < (l1.length : Int)) = false := decide_eq_false h1
  have d3 : decide (1000 < l1.length) = false := decide_eq_false (by omega)
  obtain ⟨p, q, e, hT1, hT2, lp, lq⟩ := take_both l0 hB0 (by omega) 3000 (by omega)
  have A29 := Aside0.mk hT2
  have A30 := Aside0.mk hT1
  have S1 := Aside0.mk (same_f p (by omega) 3000 (by omega))
  have S2 := Aside0.mk (same_f q (by omega) 3000 (by omega))
  have h8 := vbytes_le (l1.length : Int)
  have A31 := Aside0.mk (give_f' l0 l1 (by omega) (by omega) 3000 (by omega))
  have A32 := Aside0.mk (rgive_f l1 (by omega) 3000 (by omega))
  have hlen : (l0 ++ vbytes (l1.length : Int) ++ l1).length ≤ 2010 := by simp only [List.length_append]; omega
  have hlen2 : (vbytes (l1.length : Int) ++ l1).length ≤ 1010 := by simp only [List.length_append]; omega
  have S3 := Aside0.mk (same_f (l0 ++ vbytes (l1.length : Int) ++ l1) (by omega) 3000 (by omega))
  have A26 := Aside0.mk (awake_f 3000 (by omega))
  have LM1 := Aside0.mk (show ([] : List Int).length + l0.length < 140737488355328 by simp; omega)
  have LM2 := Aside0.mk (show (([] : List Int) ++ l0).length + (vbytes (l1.length : Int) ++ l1).length < 140737488355328 by rw [List.nil_append]; omega)
  have EQ := Aside0.mk (show ([] : List Int) ++ l0 ++ (vbytes (l1.length : Int) ++ l1) = l0 ++ vbytes (l1.length : Int) ++ l1 by rw [List.nil_append, List.append_assoc])
  clear h0 h1 hB0 hT1 hT2 lp lq h8 hlen hlen2
  generalize l0 ++ vbytes (l1.length : Int) ++ l1 = g at A31 S3 EQ
  generalize vbytes (l1.length : Int) ++ l1 = g' at A32 LM2 EQ
  go_enter Tryd.func7, Tryd.ntmps7
  go_wp2_with (first
    | (go_at_call 29; refine (varint_Take.calls _ _ l0 p q e _ HR0.out HC0.out A29.out).mono ?_; rintro e1 w1 ⟨v1, v2, rfl, ho1, ho2, hb1⟩;
       obtain ⟨A5, c5, rfl, l5, k5⟩ := Kd.R_reads ho1; obtain ⟨A6, c6, rfl, l6, k6⟩ := Kd.R_reads ho2;
       have B1 := Aside0.mk hb1; have K5 := Aside0.mk k5; have K6 := Aside0.mk k6; have L5 := Aside0.mk l5; have L6 := Aside0.mk l6; clear hb1 k5 k6 l5 l6 ho1 ho2)
    | (go_at_call 30; refine (shibbolethref01_Take.calls 3000 _ _ l0 p q e w1 (Kd.C_below HR0.out B1.out) HC0.out A30.out).mono ?_; rintro e2 w2 ⟨A8, c8, A9, c9, rfl, k8, l8, k9, l9, hd2⟩; have B2 := Aside0.mk hd2.below; clear hd2;
       have K8 := Aside0.mk k8; have K9 := Aside0.mk k9; have L8 := Aside0.mk l8; have L9 := Aside0.mk l9; clear k8 k9 l8 l9)
    | (go_at_call 22; refine (shibbolethlaw01_same.calls 3000 _ _ p _ _ p true w2 (Kd.C_below K5.out B2.out) L5.out K8.out L8.out S1.out).mono ?_; rintro e3 w3 ⟨rfl, hd3⟩; have B3 := Aside0.mk hd3.below; clear hd3; clear S1)
    | (go_at_call 22; refine (shibbolethlaw01_same.calls 3000 _ _ q _ _ q true w3 (Kd.C_below (Kd.C_below K6.out B2.out) B3.out) L6.out (Kd.C_below K9.out B3.out) L9.out S2.out).mono ?_; rintro e4 w4 ⟨rfl, hd4⟩; have B4 := Aside0.mk (below_step (below_step (below_step B1.out B2.out) B3.out) hd4.below); clear hd4; clear S2)
    | (go_at_call 31; refine (varint_Give.calls 3000 _ _ l0 _ _ l1 g _ (Kd.C_below HR0.out B4.out) HC0.out (Kd.C_below HR1.out B4.out) HC1.out (TB.below HT.out B4.out) A31.out).mono ?_;
       rintro e5 wG ⟨v5, rfl, ho5, hb5⟩; obtain ⟨Ag, cg, rfl, lg, kg⟩ := Kd.R_reads ho5;
       have BG := Aside0.mk (below_step B4.out hb5); have KG := Aside0.mk kg; have LG := Aside0.mk lg; clear ho5 hb5 kg lg;
       have TG := Aside0.mk (TB.below HT.out BG.out); have K0 := Aside0.mk (Kd.C_below HR0.out BG.out); have K1 := Aside0.mk (Kd.C_below HR1.out BG.out); clear B1 K5 K6 K8 K9 L5 L6 L8 L9)
    | ((with_reducible refine gate_dst (N := 48) rfl ?_); (try (refine gate_guard (by rfl) ?_; dsimp only)); refine Kd.R_lit (Kd.int .u8) wG.heap.size 5 ?hg (N := 48) ?hd (xs := ([] : List Int)) (inner := []) (ok := fun _ => True) (okp := fun _ => True) ?hr ?hp (fun _ hk => hk) trivial (Below.refl _ _) (Nat.le_refl _) (by simp) ?_;
       (case hd => rfl); (case hg => rfl); (case hr => first | (go_simp; done) | (go_simp; rfl)); (case hp => exact (Reps.none _ _)); intro v6 w6 ho6 hb6 hg_ hnew_; clear hg_ hnew_; have O6 := Aside0.mk ho6; have B6 := Aside0.mk hb6; clear ho6 hb6)
    | ((with_reducible refine gate_builtin (b := .append) (xs := #[.tmp 48, .tmp 49]) rfl ?_); (try (refine gate_guard (by rfl) ?_; dsimp only)); at_builtin;
       refine Kd.R_append_rows (Kd.int .u8) (w0 := wG) wG.heap.size rfl (.tmp 48) (.tmp 49) 22 5 (.int .u8 0) 1 rfl Tryd.underlying22 Tk.info5 rfl (by decide) (by omega) v6 ([] : List Int) l0 _ _ _ (fun _ => True) (fun _ => False) rfl rfl ?aO ?aR (fun _ _ h => h) (fun _ h => h.elim) ?aF ?aB ?aS ?aL ?_;
       (case aR => exact Kd.C_below K0.out B6.out); (case aB => exact B6.out); (case aF => exact fun _ _ => trivial); (case aO => exact O6.out); (case aS => exact below_size B6.out); (case aL => have := LM1.out; omega);
       intro v7 w7 ho7 hb7 hg7 hat7; clear hg7 hat7; have O7 := Aside0.mk ho7; have B7 := Aside0.mk hb7; clear ho7 hb7 O6 B6)
    | (go_at_call 32; refine (shibbolethref01_Give.calls 3000 _ _ l1 g' w7 (Kd.C_below K1.out B7.out) HC1.out A32.out).mono ?_; rintro e8 w8 ⟨v8, rfl, ho8, hb8⟩; obtain ⟨Ah, ch, rfl, lh, kh⟩ := Kd.R_reads ho8;
       have O8 := Aside0.mk (Kd.R_below O7.out hb8); have B8 := Aside0.mk (below_step B7.out hb8); have KH := Aside0.mk kh; clear ho8 hb8 kh lh O7 B7)
    | ((with_reducible refine gate_builtin (b := .append) (xs := #[.tmp 50, .tmp 52]) rfl ?_); (try (refine gate_guard (by rfl) ?_; dsimp only)); at_builtin;
       refine Kd.R_append_rows (Kd.int .u8) (w0 := wG) wG.heap.size rfl (.tmp 50) (.tmp 52) 22 5 (.int .u8 0) 1 rfl Tryd.underlying22 Tk.info5 rfl (by decide) (by omega) v7 (([] : List Int) ++ l0) g' _ _ _ (fun _ => True) (fun _ => False) rfl rfl ?aO ?aR (fun _ _ h => h) (fun _ h => h.elim) ?aF ?aB ?aS ?aL ?_;
       (case aR => exact KH.out); (case aB => exact B8.out); (case aF => exact fun _ _ => trivial); (case aO => exact O8.out); (case aS => exact below_size B8.out); (case aL => have := LM2.out; omega);
       intro v9 w9 ho9 hb9 hg9 hat9; clear hg9 hat9; rw [EQ.out] at ho9; obtain ⟨Ai, ci, rfl, li, ki⟩ := Kd.R_reads ho9; have B9 := Aside0.mk hb9; have KI := Aside0.mk ki; have LI := Aside0.mk li; clear ho9 hb9 ki li O8 B8 KH)
    | (go_at_call 22; refine (shibbolethlaw01_same.calls 3000 _ _ g _ _ g true w9 (Kd.C_below KG.out B9.out) LG.out KI.out LI.out S3.out).mono ?_; rintro e10 w10 ⟨rfl, hd10⟩; have B10 := Aside0.mk (below_step B9.out hd10.below); clear hd10)
    | (go_at_call 26; refine (shibbolethlaw01_awake.calls 3000 true _ (TB.below TG.out B10.out) A26.out).mono ?_; rintro e11 w11 ⟨rfl, hb11⟩; have B11 := Aside0.mk (below_step (below_step BG.out B10.out) hb11); clear hb11))
  go_ret
  exact ⟨rfl, B11.out⟩
end Go.Proofs.YtbcleckapamicaaDoor.QTk
