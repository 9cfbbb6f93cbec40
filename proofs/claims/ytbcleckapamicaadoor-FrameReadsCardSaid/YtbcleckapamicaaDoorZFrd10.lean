/- A part of the proof of the law FrameReads: Fd4, QVax2, VaP, FrP, Fd5. -/
import Derived.Test.YtbcleckapamicaaDoorZFrd09
import Derived.Test.YtbcleckapamicaaDoorZFrd02
import Derived.MapKept
import Derived.Deep.WholeRow
namespace Go.Proofs.YtbcleckapamicaaDoor.Fd
open Go Go.RowKit Go.Proofs.YtbcleckapamicaaDoorW.PrintWords Go.Proofs.YtbcleckapamicaaDoorW.PrintLast Go.Proofs.YtbcleckapamicaaDoorW.PrintMore
open Go.Proofs.YtbcleckapamicaaDoor.QFr (S58 S103 k58 k103 k103_mkM)
open Go.Proofs.YtbcleckapamicaaDoor.Onl (Only)
open Go.Proofs.YtbcleckapamicaaDoor.Vn (vread vsize num)
set_option linter.unusedVariables false
set_option linter.unusedSimpArgs false
theorem info103 : (Tryd.prog.info? 103).map (fun i => (i.zero, i.size, i.bytes)) = some (some (.agg #[.int .i64 0, .int .i64 0]), 2, 16) := by kernel_rfl
def ackL : Nat → Bool → Int → List Int → Option (List S103 × List Int)
  | 0, _, _, l => some ([], l)
  | d + 1, b, tp, l => (if b = true then some (tp, l) else gapF tp l).bind fun g => (spanF g.1 g.2).bind fun s => (ackL d false s.1.f0 s.2).map fun t => (s.1 :: t.1, t.2)
theorem ackL_false : ∀ (d : Nat) (tp : Int) (l : List Int), ackL d false tp l = ackF d tp l := by
  intro d
  induction d with
  | zero => intro tp l; rfl
  | succ d ih =>
    intro tp l
    rw [ackL, ackF, if_neg (by decide)]
    simp only [ih]
theorem ackR_eq (l : List Int) : ackR l = (rnum l).bind fun a => (rnum a.2).bind fun m => if m.1 < 32 then ackL (m.1.toNat + 1) true a.1 m.2 else none := by
  unfold ackR
  simp only [ackL, ackL_false, if_true, Option.bind_some]
def mkA (sp : List S103) (t : List S103 × List Int) : S58 × List Int := (⟨2, 0, sp ++ t.1, 0, [], 0⟩, t.2)
theorem ackL_first {d : Nat} {tp : Int} {x : List Int} {sp : List S103} : (ackL (d + 1) true tp x).map (mkA sp) = (spanF tp x).bind fun s => (ackL d false s.1.f0 s.2).map (mkA (sp ++ [s.1])) := by
  rw [ackL, if_pos rfl]
  simp only [Option.bind_some]
  cases spanF tp x with
  | none => rfl
  | some s =>
    simp only [Option.bind_some, Option.map_map]
    congr 1
    funext t
    simp [mkA]
theorem ackL_next {d : Nat} {tp : Int} {x : List Int} {sp : List S103} : (ackL (d + 1) false tp x).map (mkA sp) = (gapF tp x).bind fun g => (spanF g.1 g.2).bind fun s => (ackL d false s.1.f0 s.2).map (mkA (sp ++ [s.1])) := by
  rw [ackL, if_neg (by decide)]
  cases gapF tp x with
  | none => rfl
  | some g =>
    simp only [Option.bind_some]
    cases spanF g.1 g.2 with
    | none => rfl
    | some s =>
      simp only [Option.bind_some, Option.map_map]
      congr 1
      funext t
      simp [mkA]
theorem rnum_sub {l x : List Int} {n : Int} (h : rnum l = some (n, x)) : ∀ y ∈ x, y ∈ l := by
  unfold rnum at h
  split at h
  · injection h with h; injection h with _ h; rw [← h]; exact fun y hy => List.mem_of_mem_drop hy
  · cases h
theorem own_grow {w w1 w2 : World} {rb E : Nat} (h : Only (fun k => k = rb) w w1) (h2 : Only (fun k => E ≤ k) w1 w2) (hE : w.heap.size ≤ E) : Only (fun k => k = rb) w w2 :=
  ⟨h2.os.trans h.os, h2.tape.trans h.tape, h2.output.trans h.output, Nat.le_trans h.size h2.size, fun k hk hn => (h2.block k (Nat.lt_of_lt_of_le hk h.size) (by omega)).trans (h.block k hk hn)⟩
theorem own_set {w w1 w2 : World} {rb b : Nat} (h : Only (fun k => k = rb) w w1) (h2 : Only (fun k => k = b) w1 w2) (hb : w.heap.size ≤ b) : Only (fun k => k = rb) w w2 := own_only h h2 hb
set_option maxHeartbeats 2000000 in
set_option maxRecDepth 100000 in
theorem ack_post {w0 w : World} {rb : Nat} {l : List Int} (h : Rdx w0 w rb l) :
    Calls Tryd.prog 99 #[.pointer (some ⟨rb, 0, none⟩)] w (FrmP w0 w rb ((ackR l).map fun r => (⟨2, 0, r.1, 0, [], 0⟩, r.2))) := by
  have HL := Aside0.mk (show rb < w.heap.size ∧ w0.heap.size ≤ rb from ⟨h.lt, h.lo⟩)
  have X2 := (h.below (below_alloc (Below.refl _ _) (.cells #[.int .i64 0, .int .i64 0, .slice none 0 0, .int .i64 0, .slice none 0 0, .int .i64 0] 58))).below (below_alloc (Below.refl _ _) (.cells #[.int .i64 2, .int .i64 0, .slice none 0 0, .int .i64 0, .slice none 0 0, .int .i64 0] 58))
  have Z1 := Blk.new w [.int .i64 0, .int .i64 0, .slice none 0 0, .int .i64 0, .slice none 0 0, .int .i64 0]
  have B2 := Blk.new (w.alloc (.cells #[.int .i64 0, .int .i64 0, .slice none 0 0, .int .i64 0, .slice none 0 0, .int .i64 0] 58)) [.int .i64 2, .int .i64 0, .slice none 0 0, .int .i64 0, .slice none 0 0, .int .i64 0]
  have Z2 := Z1.only (p := fun _ => False) ((Only.refl _ _).alloc (.cells #[.int .i64 2, .int .i64 0, .slice none 0 0, .int .i64 0, .slice none 0 0, .int .i64 0] 58)) (fun q => q)
  have O2 := ((Only.refl (fun k => k = rb) w).alloc (.cells #[.int .i64 0, .int .i64 0, .slice none 0 0, .int .i64 0, .slice none 0 0, .int .i64 0] 58)).alloc (.cells #[.int .i64 2, .int .i64 0, .slice none 0 0, .int .i64 0, .slice none 0 0, .int .i64 0] 58)
  rw [World.size_alloc] at B2
  have E2 : ((w.alloc (.cells #[.int .i64 0, .int .i64 0, .slice none 0 0, .int .i64 0, .slice none 0 0, .int .i64 0] 58)).alloc (.cells #[.int .i64 2, .int .i64 0, .slice none 0 0, .int .i64 0, .slice none 0 0, .int .i64 0] 58)).heap.size = w.heap.size + 1 + 1 := by simp only [World.size_alloc]
  have HC := Aside0.mk (number_post X2)
  have HB2 := Aside0.mk B2
  have HZ2 := Aside0.mk Z2
  have HO2 := Aside0.mk O2
  have HX2 := Aside0.mk X2
  have HE2 := Aside0.mk E2
  clear B2 Z1 Z2 O2 X2 E2
  generalize hres : (ackR l).map (fun r => ((⟨2, 0, r.1, 0, [], 0⟩ : S58), r.2)) = res
  replace hres : (ackR l).map (mkA []) = res := hres
  rw [ackR_eq] at hres
  have hby := h.by_
  clear h
  rcases hr : rnum l with _ | ⟨tp0, x1⟩
  · rw [hr] at HC hres
    simp only [Option.bind_none, Option.map_none] at hres
    subst hres
    clear hr
    go_enter Tryd.func99, Tryd.ntmps99
    go_wp2_with (go_at_call 107; refine HC.out.mono ?_; rintro e1 w1 ⟨ho, rfl⟩; have HO := Aside0.mk ho; clear ho)
    exact ⟨rfl, HO2.out.trans HO.out, rfl⟩
  have hr1 := rnum_rng hby hr
  have hby1 : ∀ y ∈ x1, 0 ≤ y ∧ y ≤ 255 := fun y hy => hby y (rnum_sub hr y hy)
  have HR1 := Aside0.mk hr1
  rw [hr] at HC hres
  simp only [Option.bind_some] at hres
  clear hr hr1
  rcases hr : rnum x1 with _ | ⟨m, x2⟩
  · rw [hr] at hres
    simp only [Option.bind_none, Option.map_none] at hres
    subst hres
    have HR := Aside0.mk hr
    clear hr hby hby1
    go_enter Tryd.func99, Tryd.ntmps99
    go_upto_region 3 with (go_at_call 107; refine HC.out.mono ?_; rintro e1 w1 ⟨ho, rfl, hx⟩; have HO := Aside0.mk ho; have HX := Aside0.mk hx; clear ho hx)
    have HC2 := number_post HX.out
    rw [HR.out] at HC2
    go_wp2_with (go_at_call 107; refine HC2.mono ?_; rintro e1 w3 ⟨ho, rfl⟩; have HO3 := Aside0.mk ho; clear ho)
    exact ⟨rfl, (HO2.out.trans HO.out).trans HO3.out, rfl⟩
  have hr2 := rnum_rng hby1 hr
  have hby2 : ∀ y ∈ x2, 0 ≤ y ∧ y ≤ 255 := fun y hy => hby1 y (rnum_sub hr y hy)
  rw [hr] at hres
  simp only [Option.bind_some] at hres
  have HR := Aside0.mk hr
  clear hr hby hby1
  by_cases hm : m < 32
  rotate_left
  · rw [if_neg hm] at hres
    simp only [Option.map_none] at hres
    subst hres
    have d0 : decide (m < 32) = false := decide_eq_false hm
    clear hm hr2 hby2
    go_enter Tryd.func99, Tryd.ntmps99
    go_upto_region 3 with (go_at_call 107; refine HC.out.mono ?_; rintro e1 w1 ⟨ho, rfl, hx⟩; have HO := Aside0.mk ho; have HX := Aside0.mk hx; clear ho hx)
    have HC2 := number_post HX.out
    rw [HR.out] at HC2
    go_wp2_with (first | (go_at_call 107; refine HC2.mono ?_; rintro e1 w3 ⟨ho, rfl, hx⟩; have HO3 := Aside0.mk ho; have HX3 := Aside0.mk hx; clear ho hx) | (go_at_call 79; refine (need_bad _).mono ?_; rintro e1 w4 ⟨rfl, rfl⟩))
    exact ⟨rfl, (HO2.out.trans HO.out).trans HO3.out, rfl⟩
  rw [if_pos hm] at hres
  have d0 : decide (m < 32) = true := decide_eq_true hm
  obtain ⟨M, rfl⟩ := Int.eq_ofNat_of_zero_le hr2.1
  have d1 : decide (M < 32) = true := decide_eq_true (by omega)
  obtain ⟨K, hK⟩ : ∃ K, M + 1 = K := ⟨_, rfl⟩
  have e18 : wrap64 ((M : Int) + 1) = (K : Int) := by unfold wrap64; omega
  have HK := Aside0.mk hK
  have HM := Aside0.mk hm
  rw [Int.toNat_natCast] at hres
  have HRES := Aside0.mk hres
  clear hm hr2 hby2 hres hK
  go_enter Tryd.func99, Tryd.ntmps99
  go_upto_region 3 with (go_at_call 107; refine HC.out.mono ?_; rintro e1 w1 ⟨ho, rfl, hx⟩; have HO := Aside0.mk ho; have HX := Aside0.mk hx; clear ho hx)
  have HC2 := number_post HX.out
  rw [HR.out] at HC2
  go_wp2_with (first | (go_at_call 107; refine HC2.mono ?_; rintro e1 w3 ⟨ho, rfl, hx⟩; have HO3 := Aside0.mk ho; have HX3 := Aside0.mk hx; clear ho hx) | (go_at_call 79; refine (need_ok _).mono ?_; rintro e1 w4 ⟨rfl, rfl⟩))
  have O4 := Aside0.mk ((HO2.out.trans HO.out).trans HO3.out)
  have hL := HL.out
  have B4 := Aside0.mk ((HB2.out.only HO.out (by omega)).only HO3.out (by omega))
  have Z4 := Aside0.mk ((HZ2.out.only HO.out (by omega)).only HO3.out (by omega))
  have hz4 : w.heap.size + 1 + 1 ≤ w3.heap.size := by have h1 := HO.out.size; have h2 := HO3.out.size; have h3 := HE2.out; omega
  have HZ4 := Aside0.mk hz4
  clear hL hz4 HC2 HC HX HO HO3 HB2 HZ2 HO2 HX2 HE2 HR
  obtain ⟨b0, hb0⟩ : ∃ b0, w.heap.size = b0 := ⟨_, rfl⟩
  obtain ⟨hb, hhb⟩ : ∃ hb, w.heap.size + 1 = hb := ⟨_, rfl⟩
  rw [hhb] at B4
  rw [hb0] at Z4
  have hfold : w.heap.size + 1 = hb := hhb
  rw [hfold, hb0]
  clear hfold
  have HI := Aside0.mk (And.intro hb0 hhb)
  clear hb0 hhb
  try rw [e18]
  clear e18
  have hK := HK.out
  rw [hK] at HRES
  go_loopg [4, 19] K (fun gg v4 v19 wr => ∃ (k : Nat) (tp : Int) (x : List Int) (sp : List S103) (v : Value), k ≤ K ∧ K - k ≤ gg ∧ v4 = .int .i64 tp ∧ v19 = .int .i64 k ∧ Aside0 (0 ≤ tp ∧ tp ≤ 4611686018427387903) ∧ Aside0 (sp.length = k) ∧ Aside0 ((ackL (K - k) (decide (k = 0)) tp x).map (mkA sp) = res) ∧ Aside0 (Rdx w0 wr rb x) ∧ Aside0 (Blk wr hb [.int .i64 2, .int .i64 0, v, .int .i64 0, .slice none 0 0, .int .i64 0]) ∧ Aside0 (Blk wr b0 [.int .i64 0, .int .i64 0, .slice none 0 0, .int .i64 0, .slice none 0 0, .int .i64 0]) ∧ Aside0 (Kd.R k103 103 wr (hb + 1) (fun _ => True) v sp) ∧ Aside0 (Only (fun k => k = rb) w wr) ∧ Aside0 (hb + 1 ≤ wr.heap.size))
  case atStart => exact ⟨0, tp0, x2, [], .slice none 0 0, by omega, by omega, rfl, rfl, ⟨HR1.out⟩, ⟨rfl⟩, ⟨HRES.out⟩, HX3, B4, Z4, ⟨Kd.R_nil _ _ _ _ _⟩, O4, ⟨by have h1 := HI.out; have h2 := HZ4.out; omega⟩⟩
  case round =>
    obtain ⟨k, tp, x, sp, v, hk, hg, rfl, rfl, HTP, HSP, HRS, HX, B, ZZ, R, O, S⟩ := hrel
    obtain ⟨Av, cv, ev⟩ := Kd.R_slice R.out
    obtain ⟨nv, hnv⟩ : ∃ nv, sp.length = nv := ⟨_, rfl⟩
    rw [hnv] at ev
    clear hnv
    subst ev
    have HG := Aside0.mk hg
    clear HX3 B4 Z4 O4 HZ4 HRES hg
    by_cases hend : k = K
    · subst hend
      have hres := HRS.out
      rw [Nat.sub_self, ackL] at hres
      simp only [Option.map_some, mkA, List.append_nil] at hres
      subst hres
      have c0 : decide ((k : Int) < (k : Int)) = false := decide_eq_false (by omega)
      have c1 : decide (k < k) = false := decide_eq_false (by omega)
      have c2 : ¬ ((k : Int) < (k : Int)) := by omega
      clear hk
      have q0 := B.out.cell 0 _ rfl
      have q1 := B.out.cell 1 _ rfl
      have q2 := B.out.cell 2 _ rfl
      have q3 := B.out.cell 3 _ rfl
      have q4 := B.out.cell 4 _ rfl
      have q5 := B.out.cell 5 _ rfl
      have z0 := ZZ.out.cell 0 _ rfl
      have z1 := ZZ.out.cell 1 _ rfl
      have z2 := ZZ.out.cell 2 _ rfl
      have z3 := ZZ.out.cell 3 _ rfl
      have z4 := ZZ.out.cell 4 _ rfl
      have z5 := ZZ.out.cell 5 _ rfl
      have y0 := ZZ.out.frozen 0
      have y1 := ZZ.out.frozen 1
      have y2 := ZZ.out.frozen 2
      have y3 := ZZ.out.frozen 3
      have y4 := ZZ.out.frozen 4
      have y5 := ZZ.out.frozen 5
      go_wp2
      change bodyPost _ _ _ _ _ (put6 wr b0 (.int .i64 2) (.int .i64 0) (.slice Av nv cv) (.int .i64 0) (.slice none 0 0) (.int .i64 0))
      have B8 := put6_blk ZZ.out (.int .i64 2) (.int .i64 0) (.slice Av nv cv) (.int .i64 0) (.slice none 0 0) (.int .i64 0)
      have O8 := put6_only wr b0 (.int .i64 2) (.int .i64 0) (.slice Av nv cv) (.int .i64 0) (.slice none 0 0) (.int .i64 0)
      clear q0 q1 q2 q3 q4 q5 z0 z1 z2 z3 z4 z5 y0 y1 y2 y3 y4 y5 c0 c1 c2
      generalize put6 wr b0 (.int .i64 2) (.int .i64 0) (.slice Av nv cv) (.int .i64 0) (.slice none 0 0) (.int .i64 0) = w8 at *
      have x0 := B8.cell 0 _ rfl
      have x1 := B8.cell 1 _ rfl
      have x2 := B8.cell 2 _ rfl
      have x3 := B8.cell 3 _ rfl
      have x4 := B8.cell 4 _ rfl
      have x5 := B8.cell 5 _ rfl
      refine bodyPost_ret (v := .agg #[.int .i64 2, .int .i64 0, .slice Av nv cv, .int .i64 0, .slice none 0 0, .int .i64 0]) ?_ rfl ?_
      · simp [results, Tryd.results99, go_sem, x0, x1, x2, x3, x4, x5]
      · clear x0 x1 x2 x3 x4 x5 B8
        have hL := HL.out
        have hI := HI.out
        exact ⟨own_only O.out O8 (by omega), ⟨_, _, rfl, Kd.R_lower (R_only R.out O8 (fun k q => by omega)) (by omega), Kd.R_nil _ _ _ _ _⟩, HX.out.only O8 (by omega) (by omega)⟩
    have hklt : k < K := by omega
    have c0 : decide ((k : Int) < (K : Int)) = true := decide_eq_true (by omega)
    have c1 : decide (k < K) = true := decide_eq_true hklt
    have c2 : (k : Int) < (K : Int) := by omega
    obtain ⟨d, hd⟩ : ∃ d, K - k = d + 1 := ⟨K - k - 1, by omega⟩
    have HDD := Aside0.mk (show d = K - (k + 1) by omega)
    have HKL := Aside0.mk hklt
    have hres := HRS.out
    rw [hd] at hres
    have hm32 := HM.out
    have hK2 := HK.out
    have e19 : wrap64 ((k : Int) + 1) = ((k + 1 : Nat) : Int) := by unfold wrap64; omega
    clear hd hklt hk hend hm32 hK2 HRS
    by_cases hk0 : k = 0
    · subst hk0
      rw [decide_eq_true rfl, ackL_first] at hres
      have k0 : decide ((0 : Int) < ((0 : Nat) : Int)) = false := rfl
      have HN := number_post HX.out
      rcases hn : rnum x with _ | ⟨n, y⟩
      · rw [hn] at HN
        rw [show spanF tp x = none by unfold spanF; rw [hn]; rfl] at hres
        simp only [Option.bind_none] at hres
        subst hres
        clear hn
        go_wp2_with (go_at_call 107; refine HN.mono ?_; rintro e1 w5 ⟨ho, rfl⟩; have HO := Aside0.mk ho; clear ho)
        exact ⟨rfl, O.out.trans HO.out, rfl⟩
      have hnr := rnum_rng HX.out.by_ hn
      have HNR := Aside0.mk hnr
      rw [hn] at HN
      by_cases hle : n ≤ tp
      rotate_left
      · rw [show spanF tp x = none by unfold spanF; rw [hn]; exact if_neg hle] at hres
        simp only [Option.bind_none] at hres
        subst hres
        have dle : decide (n ≤ tp) = false := decide_eq_false hle
        clear hn hle hnr
        go_wp2_with (first | (go_at_call 107; refine HN.mono ?_; rintro e1 w5 ⟨ho, rfl, hx⟩; have HO := Aside0.mk ho; clear ho hx) | (go_at_call 79; refine (need_bad _).mono ?_; rintro e1 w4 ⟨rfl, rfl⟩))
        exact ⟨rfl, O.out.trans HO.out, rfl⟩
      rw [show spanF tp x = some (⟨tp - n, tp⟩, y) by unfold spanF; rw [hn]; exact if_pos hle] at hres
      simp only [Option.bind_some] at hres
      have dle : decide (n ≤ tp) = true := decide_eq_true hle
      have hRN := HTP.out
      have esub : wrap64 (tp - n) = tp - n := by unfold wrap64; omega
      have HLE := Aside0.mk hle
      have HRS := Aside0.mk hres
      clear hn hle hnr hRN hres
      go_upto_region 14 with (first | (go_at_call 107; refine HN.mono ?_; rintro e1 w5 ⟨ho, rfl, hx⟩; have hL := HL.out; have hI := HI.out; have HO := Aside0.mk ho; have HX5 := Aside0.mk hx; have B5 := Aside0.mk (B.out.only ho (by omega)); have Z5 := Aside0.mk (ZZ.out.only ho (by omega)); have R5 := Aside0.mk (R_only R.out ho (fun k q => by omega)); have O5 := Aside0.mk (O.out.trans ho); have S5 := Aside0.mk (Nat.le_trans S.out ho.size); have g2 := B5.out.cell 2 _ rfl; clear ho hx hL hI) | (go_at_call 79; refine (need_ok _).mono ?_; rintro e1 w4 ⟨rfl, rfl⟩))
      clear HN
      go_wp2_with ((with_reducible refine gate_builtin (b := .append) (xs := #[.tmp 42, .tmp 48]) rfl ?_); at_builtin; refine Kd.R_append k103 (w0 := w5) (hb + 1) rfl (.tmp 42) (.tmp 48) 55 103 (.agg #[.int .i64 0, .int .i64 0]) 16 rfl Tryd.underlying55 info103 rfl (by decide) (by omega) (.slice Av nv cv) sp (⟨tp - n, tp⟩ : S103) [.int .i64 (tp - n), .int .i64 tp] (fun _ => True) (fun _ => False) rfl rfl (k103_mkM _ _ _ _) (fun _ h => h.elim) ?aF ?aO ?aB ?aS ?aL ?_; (case aF => exact fun _ _ => trivial); (case aO => exact R5.out); (case aB => exact Below.refl _ _); (case aS => exact S5.out); (case aL => have h1 := HSP.out; have h2 := HKL.out; have h3 := HM.out; have h4 := HK.out; omega); intro v1 w6 hR6 hb6 hg6 hat6; obtain ⟨A9, c9, e9⟩ := Kd.R_slice hR6; obtain ⟨n9, hn9⟩ : ∃ n9, (sp ++ [(⟨tp - n, tp⟩ : S103)]).length = n9 := ⟨_, rfl⟩; rw [hn9] at e9; clear hn9; subst e9; have ho6 : Only (fun k => hb + 1 ≤ k) w5 w6 := (Only.refl _ w5).grown hg6 (fun k e => .inl (Kd.R_base R5.out k e)); have hI := HI.out; have hL := HL.out; have B6 := Aside0.mk (B5.out.only ho6 (by omega)); have Z6 := Aside0.mk (Z5.out.only ho6 (by omega)); have R6 := Aside0.mk hR6; have HO6 := Aside0.mk ho6; have g2 := B6.out.cell 2 _ rfl; have h2 := B6.out.frozen 2; clear hR6 hb6 hg6 hat6 ho6 hI hL)
      go_roundg d
      case measure => have h1 := HDD.out; have h2 := HG.out; have h3 := HKL.out; omega
      case rel =>
        have hL := HL.out
        have hI := HI.out
        have o7 := (Only.refl (fun k => k = hb) w6).setCell (ad := ⟨hb, 2, none⟩) rfl (.slice A9 n9 c9)
        have hlt : rb < hb := by omega
        refine ⟨0 + 1, tp - n, y, sp ++ [⟨tp - n, tp⟩], .slice A9 n9 c9, by have h3 := HKL.out; omega, by have h1 := HDD.out; omega, by rw [esub], by first | go_num | rfl, ⟨by have h1 := HTP.out; have h2 := HNR.out; have h3 := HLE.out; omega⟩, ⟨by rw [List.length_append, HSP.out]; rfl⟩, ⟨?_⟩, ⟨?_⟩, ⟨B6.out.set 2 (.slice A9 n9 c9)⟩, ⟨Z6.out.far (a := ⟨hb, 2, none⟩) (by show hb ≠ b0; omega) _⟩, ⟨R_only R6.out o7 (fun k q => by omega)⟩, ⟨?_⟩, ⟨?_⟩⟩
        · rw [← HDD.out, decide_eq_false (show ¬ 0 + 1 = 0 by omega)]; exact HRS.out
        · obtain ⟨A5, c5, h5⟩ := HX5.out
          exact ⟨A5, c5, (h5.only HO6.out (fun q => by omega) (fun k q => by omega)).only o7 (fun q => by omega) (fun k q => by omega)⟩
        · exact own_set (own_grow O5.out HO6.out (by omega)) o7 (by omega)
        · exact Nat.le_trans S5.out (Nat.le_trans HO6.out.size o7.size)
    · rw [decide_eq_false hk0, ackL_next] at hres
      have k0 : decide ((0 : Int) < (k : Int)) = true := decide_eq_true (by omega)
      have k1 : decide (0 < k) = true := decide_eq_true (by omega)
      have HK0 := Aside0.mk hk0
      clear hk0
      have HGN := number_post HX.out
      rcases hgn : rnum x with _ | ⟨g, x'⟩
      · rw [hgn] at HGN
        rw [show gapF tp x = none by unfold gapF; rw [hgn]; rfl] at hres
        simp only [Option.bind_none] at hres
        subst hres
        clear hgn
        go_wp2_with (go_at_call 107; refine HGN.mono ?_; rintro e1 w5 ⟨ho, rfl⟩; have HO := Aside0.mk ho; clear ho)
        exact ⟨rfl, O.out.trans HO.out, rfl⟩
      have hgr := rnum_rng HX.out.by_ hgn
      have HGR := Aside0.mk hgr
      rw [hgn] at HGN
      have e2 : wrap64 (g + 2) = g + 2 := by unfold wrap64; omega
      by_cases hge : g + 2 ≤ tp
      rotate_left
      · rw [show gapF tp x = none by unfold gapF; rw [hgn]; exact if_neg hge] at hres
        simp only [Option.bind_none] at hres
        subst hres
        have dge : decide (g + 2 ≤ tp) = false := decide_eq_false hge
        clear hgn hge hgr
        go_wp2_with (first | (go_at_call 107; refine HGN.mono ?_; rintro e1 w5 ⟨ho, rfl, hx⟩; have HO := Aside0.mk ho; clear ho hx) | (go_at_call 79; refine (need_bad _).mono ?_; rintro e1 w4 ⟨rfl, rfl⟩))
        exact ⟨rfl, O.out.trans HO.out, rfl⟩
      rw [show gapF tp x = some (tp - (g + 2), x') by unfold gapF; rw [hgn]; exact if_pos hge] at hres
      simp only [Option.bind_some] at hres
      have dge : decide (g + 2 ≤ tp) = true := decide_eq_true hge
      have hTP := HTP.out
      obtain ⟨tq, htq⟩ : ∃ tq, tp - (g + 2) = tq := ⟨_, rfl⟩
      have e3 : wrap64 (tp - (g + 2)) = tq := by unfold wrap64; omega
      have HTQ := Aside0.mk (show 0 ≤ tq ∧ tq ≤ 4611686018427387903 by omega)
      rw [htq] at hres
      clear hgn hge hgr hTP htq
      go_upto_region 12 with (first | (go_at_call 107; refine HGN.mono ?_; rintro e1 w9 ⟨ho, rfl, hx⟩; have hL := HL.out; have hI := HI.out; have HO9 := Aside0.mk ho; have X9 := Aside0.mk hx; have B9 := Aside0.mk (B.out.only ho (by omega)); have Z9 := Aside0.mk (ZZ.out.only ho (by omega)); have R9 := Aside0.mk (R_only R.out ho (fun k q => by omega)); have O9 := Aside0.mk (O.out.trans ho); have S9 := Aside0.mk (Nat.le_trans S.out ho.size); clear ho hx hL hI) | (go_at_call 79; refine (need_ok _).mono ?_; rintro e1 w4 ⟨rfl, rfl⟩))
      clear HGN B ZZ R O S HX
      try rw [e3]
      clear e3
      have HN := number_post X9.out
      rcases hn : rnum x' with _ | ⟨n, y⟩
      · rw [hn] at HN
        rw [show spanF tq x' = none by unfold spanF; rw [hn]; rfl] at hres
        simp only [Option.bind_none] at hres
        subst hres
        clear hn
        go_wp2_with (go_at_call 107; refine HN.mono ?_; rintro e1 w5 ⟨ho, rfl⟩; have HO := Aside0.mk ho; clear ho)
        exact ⟨rfl, O9.out.trans HO.out, rfl⟩
      have hnr := rnum_rng X9.out.by_ hn
      have HNR := Aside0.mk hnr
      rw [hn] at HN
      by_cases hle : n ≤ tq
      rotate_left
      · rw [show spanF tq x' = none by unfold spanF; rw [hn]; exact if_neg hle] at hres
        simp only [Option.bind_none] at hres
        subst hres
        have dle : decide (n ≤ tq) = false := decide_eq_false hle
        clear hn hle hnr
        go_wp2_with (first | (go_at_call 107; refine HN.mono ?_; rintro e1 w5 ⟨ho, rfl, hx⟩; have HO := Aside0.mk ho; clear ho hx) | (go_at_call 79; refine (need_bad _).mono ?_; rintro e1 w4 ⟨rfl, rfl⟩))
        exact ⟨rfl, O9.out.trans HO.out, rfl⟩
      rw [show spanF tq x' = some (⟨tq - n, tq⟩, y) by unfold spanF; rw [hn]; exact if_pos hle] at hres
      simp only [Option.bind_some] at hres
      have dle : decide (n ≤ tq) = true := decide_eq_true hle
      have hRN := HTQ.out
      have esub : wrap64 (tq - n) = tq - n := by unfold wrap64; omega
      have HLE := Aside0.mk hle
      have HRS := Aside0.mk hres
      clear hn hle hnr hRN hres
      go_upto_region 14 with (first | (go_at_call 107; refine HN.mono ?_; rintro e1 w5 ⟨ho, rfl, hx⟩; have hL := HL.out; have hI := HI.out; have HO := Aside0.mk ho; have HX5 := Aside0.mk hx; have B5 := Aside0.mk (B9.out.only ho (by omega)); have Z5 := Aside0.mk (Z9.out.only ho (by omega)); have R5 := Aside0.mk (R_only R9.out ho (fun k q => by omega)); have O5 := Aside0.mk (O9.out.trans ho); have S5 := Aside0.mk (Nat.le_trans S9.out ho.size); have g2 := B5.out.cell 2 _ rfl; clear ho hx hL hI) | (go_at_call 79; refine (need_ok _).mono ?_; rintro e1 w4 ⟨rfl, rfl⟩))
      clear HN
      go_wp2_with ((with_reducible refine gate_builtin (b := .append) (xs := #[.tmp 42, .tmp 48]) rfl ?_); at_builtin; refine Kd.R_append k103 (w0 := w5) (hb + 1) rfl (.tmp 42) (.tmp 48) 55 103 (.agg #[.int .i64 0, .int .i64 0]) 16 rfl Tryd.underlying55 info103 rfl (by decide) (by omega) (.slice Av nv cv) sp (⟨tq - n, tq⟩ : S103) [.int .i64 (tq - n), .int .i64 tq] (fun _ => True) (fun _ => False) rfl rfl (k103_mkM _ _ _ _) (fun _ h => h.elim) ?aF ?aO ?aB ?aS ?aL ?_; (case aF => exact fun _ _ => trivial); (case aO => exact R5.out); (case aB => exact Below.refl _ _); (case aS => exact S5.out); (case aL => have h1 := HSP.out; have h2 := HKL.out; have h3 := HM.out; have h4 := HK.out; omega); intro v1 w6 hR6 hb6 hg6 hat6; obtain ⟨A9, c9, e9⟩ := Kd.R_slice hR6; obtain ⟨n9, hn9⟩ : ∃ n9, (sp ++ [(⟨tq - n, tq⟩ : S103)]).length = n9 := ⟨_, rfl⟩; rw [hn9] at e9; clear hn9; subst e9; have ho6 : Only (fun k => hb + 1 ≤ k) w5 w6 := (Only.refl _ w5).grown hg6 (fun k e => .inl (Kd.R_base R5.out k e)); have hI := HI.out; have hL := HL.out; have B6 := Aside0.mk (B5.out.only ho6 (by omega)); have Z6 := Aside0.mk (Z5.out.only ho6 (by omega)); have R6 := Aside0.mk hR6; have HO6 := Aside0.mk ho6; have g2 := B6.out.cell 2 _ rfl; have h2 := B6.out.frozen 2; clear hR6 hb6 hg6 hat6 ho6 hI hL)
      go_roundg d
      case measure => have h1 := HDD.out; have h2 := HG.out; have h3 := HKL.out; omega
      case rel =>
        have hL := HL.out
        have hI := HI.out
        have o7 := (Only.refl (fun k => k = hb) w6).setCell (ad := ⟨hb, 2, none⟩) rfl (.slice A9 n9 c9)
        have hlt : rb < hb := by omega
        refine ⟨k + 1, tq - n, y, sp ++ [⟨tq - n, tq⟩], .slice A9 n9 c9, by have h3 := HKL.out; omega, by have h1 := HDD.out; omega, by rw [esub], by first | go_num | rfl, ⟨by have h1 := HTQ.out; have h2 := HNR.out; have h3 := HLE.out; omega⟩, ⟨by rw [List.length_append, HSP.out]; rfl⟩, ⟨?_⟩, ⟨?_⟩, ⟨B6.out.set 2 (.slice A9 n9 c9)⟩, ⟨Z6.out.far (a := ⟨hb, 2, none⟩) (by show hb ≠ b0; omega) _⟩, ⟨R_only R6.out o7 (fun k q => by omega)⟩, ⟨?_⟩, ⟨?_⟩⟩
        · rw [← HDD.out, decide_eq_false (show ¬ k + 1 = 0 by omega)]; exact HRS.out
        · obtain ⟨A5, c5, h5⟩ := HX5.out
          exact ⟨A5, c5, (h5.only HO6.out (fun q => by omega) (fun k q => by omega)).only o7 (fun q => by omega) (fun k q => by omega)⟩
        · exact own_set (own_grow O5.out HO6.out (by omega)) o7 (by omega)
        · exact Nat.le_trans S5.out (Nat.le_trans HO6.out.size o7.size)
end Go.Proofs.YtbcleckapamicaaDoor.Fd
namespace Go.Proofs.YtbcleckapamicaaDoor.QVa
open Go.RowKit Go.Proofs.YtbcleckapamicaaDoorW.PrintWords Go.Proofs.YtbcleckapamicaaDoorW.PrintLast Go.Proofs.YtbcleckapamicaaDoorW.PrintMore
attribute [local go_sem] max2_int min2_int max_two min_two max_three min_three max_four min_four
set_option linter.unusedVariables false
set_option linter.unusedSimpArgs false
set_option hygiene false
local macro "ps180_" : term => `((by first | rfl | (simp; done) | (simp [*]; done)))
local macro "ps181_" : term => `((by first | (with_reducible assumption) | assumption))
local macro "ls180_" : tactic => `(tactic| (exact ⟨by first | rfl | (simp; done) | (simp [*]; done), by repeat (first | exact Drawn0.refl _ | apply Drawn0.step)⟩))
set_option hygiene true
mutual
def shibbolethref01_Read.l0 : Nat → List Int → Int → Int → Option (Int × Int × Int)
 | 0, _, _, _ => none
 | k + 1, x0, x5, x6 => if 0 < (x0.length : Int) then (if x6 < (wrap64 (Int.tdiv (wrap64 (rd x0 0)) 64)) then (shibbolethref01_Read.l0 k x0 (wrap64 (x5 * 2)) (wrap64 (x6 + 1))) else (if (x0.length : Int) < x5 then (some (0, 0, 2)) else (shibbolethref01_Read.l1 k x0 x5 (Int.tmod (wrap64 (rd x0 0)) 64) 1))) else (none)
def shibbolethref01_Read.l1 : Nat → List Int → Int → Int → Int → Option (Int × Int × Int)
 | 0, _, _, _, _ => none
 | k + 1, x0, x5, x7, x8 => if x8 < x5 then (if 0 ≤ x8 then (if x8 < (x0.length : Int) then (shibbolethref01_Read.l1 k x0 x5 (wrap64 ((wrap64 (256 * x7)) + (wrap64 (rd x0 x8)))) (wrap64 (x8 + 1))) else (none)) else (none)) else ((shibbolethref01_Size.f k x7).bind fun t171 => (if t171 = x5 then (some (x7, x5, 0)) else (some (0, 0, 3))))
end
def shibbolethref01_Read.f (k : Nat) (l0 : List Int) : Option (Int × Int × Int) := if (l0.length : Int) = 0 then (some (0, 0, 2)) else (shibbolethref01_Read.l0 k l0 1 0)
theorem shibbolethref01_Read.mono_l : ∀ k, (∀ y0 y1 y2, LeO (shibbolethref01_Read.l0 k y0 y1 y2) (shibbolethref01_Read.l0 (k + 1) y0 y1 y2)) ∧ (∀ y0 y1 y2 y3, LeO (shibbolethref01_Read.l1 k y0 y1 y2 y3) (shibbolethref01_Read.l1 (k + 1) y0 y1 y2 y3))
 | 0 => ⟨fun _ _ _ r h => by simp [shibbolethref01_Read.l0] at h, fun _ _ _ _ r h => by simp [shibbolethref01_Read.l1] at h⟩
 | k + 1 => by
  obtain ⟨ih0, ih1⟩ := shibbolethref01_Read.mono_l k
  refine ⟨?_, ?_⟩
  ·intro y0 y1 y2
   unfold shibbolethref01_Read.l0
   repeat' first
   | (with_reducible exact ih0 _ _ _)
   | (with_reducible exact ih1 _ _ _ _)
   | (with_reducible exact shibbolethref01_Size.mono _ _)
   | (with_reducible exact LeO.refl _)
   | (with_reducible exact LeO.none _)
   | (with_reducible refine LeO.ite ?_ ?_)
   | (with_reducible refine LeO.bind ?_ (fun _ => ?_))
   | exact ih0 _ _ _
   | exact ih1 _ _ _ _
   | exact shibbolethref01_Size.mono _ _
   | exact LeO.none _
   | refine LeO.ite ?_ ?_
   | refine LeO.bind ?_ (fun _ => ?_)
  ·intro y0 y1 y2 y3
   unfold shibbolethref01_Read.l1
   repeat' first
   | (with_reducible exact ih0 _ _ _)
   | (with_reducible exact ih1 _ _ _ _)
   | (with_reducible exact shibbolethref01_Size.mono _ _)
   | (with_reducible exact LeO.refl _)
   | (with_reducible exact LeO.none _)
   | (with_reducible refine LeO.ite ?_ ?_)
   | (with_reducible refine LeO.bind ?_ (fun _ => ?_))
   | exact ih0 _ _ _
   | exact ih1 _ _ _ _
   | exact shibbolethref01_Size.mono _ _
   | exact LeO.none _
   | refine LeO.ite ?_ ?_
   | refine LeO.bind ?_ (fun _ => ?_)
theorem shibbolethref01_Read.mono : ∀ a0 k, LeO (shibbolethref01_Read.f k a0) (shibbolethref01_Read.f (k + 1) a0) := by
 intro a0 k
 obtain ⟨ih0, ih1⟩ := shibbolethref01_Read.mono_l k
 unfold shibbolethref01_Read.f
 repeat' first
   | (with_reducible exact ih0 _ _ _)
   | (with_reducible exact ih1 _ _ _ _)
   | (with_reducible exact shibbolethref01_Size.mono _ _)
   | (with_reducible exact LeO.refl _)
   | (with_reducible exact LeO.none _)
   | (with_reducible refine LeO.ite ?_ ?_)
   | (with_reducible refine LeO.bind ?_ (fun _ => ?_))
   | exact ih0 _ _ _
   | exact ih1 _ _ _ _
   | exact shibbolethref01_Size.mono _ _
   | exact LeO.none _
   | refine LeO.ite ?_ ?_
   | refine LeO.bind ?_ (fun _ => ?_)
set_option maxHeartbeats 8000000 in
set_option maxRecDepth 100000 in
theorem shibbolethref01_Read.calls (k : Nat) (A0 : Option Addr) (c0 : Nat) (l0 : List Int) (r1 : Int) (r2 : Int) (r3 : Int) (w : World) (hr0 : Kd.C (Kd.int .u8) w A0 l0.length l0) (hc0 : l0.length ≤ c0) (h : shibbolethref01_Read.f k l0 = some (r1, r2, r3)) :
  Calls Tryd.prog 28 #[.slice A0 l0.length c0] w fun e w' => e = .returned (.tuple #[.int .i64 r1, .int .i64 r2, .int .i64 r3]) ∧ Drawn0 w w' := by
 have HR0 := Aside0.mk hr0
 have HC0 := Aside0.mk hc0
 clear hr0 hc0
 have H : (if (l0.length : Int) = 0 then (some (0, 0, 2)) else (shibbolethref01_Read.l0 k l0 1 0)) = some (r1, r2, r3) := h
 clear h
 by_cases c2 : (l0.length : Int) = 0
 ·rw [if_pos c2] at H
  have c2b0 : ((l0.length : Int) == 0) = true := beq_iff_eq.mpr c2
  have c2b1 : ((l0.length : Int) != 0) = false := bne_eq_false_iff_eq.mpr c2
  clear c2
  simp only [Option.some.injEq, Prod.mk.injEq] at H
  obtain ⟨rfl, rfl, rfl⟩ := H
  go_enter Tryd.func28, Tryd.ntmps28
  go_wp2
  go_ret3
  ls180_
 ·rw [if_neg c2] at H
  have c2b0 : ((l0.length : Int) == 0) = false := beq_eq_false_iff_ne.mpr c2
  have c2b1 : ((l0.length : Int) != 0) = true := bne_iff_ne.mpr c2
  have c2b2 : ¬ (l0 = []) := fun h_ => c2 (by rw [h_]; rfl)
  have H' := Aside0.mk H
  clear H
  go_enter Tryd.func28, Tryd.ntmps28
  go_wp2
  go_loopg [5, 6] k (fun kq v5 v6 w' => ∃ (x5_1 : Int) (x6_1 : Int), v5 = .int .i64 x5_1 ∧ v6 = .int .i64 x6_1 ∧ Aside0 (shibbolethref01_Read.l0 kq l0 x5_1 x6_1 = some (r1, r2, r3)) ∧ Aside0 (kq ≤ k) ∧ Drawn0 w w')
  case atStart => exact ⟨(1), (0), (ps180_), (ps180_), H', ⟨Nat.le_refl _⟩, by repeat (first | exact Drawn0.refl _ | apply Drawn0.step)⟩
  case round =>
   clear H'
   try clear c2
   try clear c2b0
   try clear c2b1
   try clear c2b2
   try clear p2
   obtain ⟨x5_1, x6_1, rfl, rfl, HA, HK1, ⟨m1, rfl⟩⟩ := hrel
   cases gk with
   | zero => exact absurd HA.out (by simp [shibbolethref01_Read.l0])
   | succ k1 =>
    have H := HA.out
    clear HA
    simp only [shibbolethref01_Read.l0] at H
    by_cases c3 : 0 < (l0.length : Int)
    ·rw [if_pos c3] at H
     have c3b0 : decide (0 < (l0.length : Int)) = true := decide_eq_true c3
     have c3b1 : decide (0 < l0.length) = true := decide_eq_true (by omega)
     clear c3
     by_cases c4 : x6_1 < (wrap64 (Int.tdiv (wrap64 (rd l0 0)) 64))
     ·rw [if_pos c4] at H
      have c4b0 : decide (x6_1 < (wrap64 (Int.tdiv (wrap64 (rd l0 0)) 64))) = true := decide_eq_true c4
      clear c4
      have H' := Aside0.mk H
      clear H
      have p168 : 0 ≤ (0 : Int) := (by omega)
      have q168 : 0 < (l0.length : Int) := of_decide_eq_true (ps181_)
      obtain ⟨ad168, e168, hx168_0⟩ := Kd.at_int HR0.out 0 p168 q168
      (try simp only [Int.reduceToNat] at hx168_0)
      cases e168
      have qi168 : (0 < l0.length) = True := eq_true (by omega)
      (try rw [show ((0 : Int)).toNat = 0 from rfl] at hx168_0)
      (try rw [Addr.add_zero'] at hx168_0)
      replace p168 := eq_true p168
      replace q168 := eq_true q168
      go_wp2
      go_roundg k1
      case measure => have := HK1.out; omega
      case rel => exact ⟨(wrap64 (x5_1 * 2)), (wrap64 (x6_1 + 1)), (ps180_), (ps180_), H', ⟨by have := HK1.out; omega⟩, by repeat (first | exact Drawn0.refl _ | apply Drawn0.step)⟩
     ·rw [if_neg c4] at H
      have c4b0 : decide (x6_1 < (wrap64 (Int.tdiv (wrap64 (rd l0 0)) 64))) = false := decide_eq_false c4
      clear c4
      by_cases c5 : (l0.length : Int) < x5_1
      ·rw [if_pos c5] at H
       have c5b0 : decide ((l0.length : Int) < x5_1) = true := decide_eq_true c5
       clear c5
       simp only [Option.some.injEq, Prod.mk.injEq] at H
       obtain ⟨rfl, rfl, rfl⟩ := H
       have p168 : 0 ≤ (0 : Int) := (by omega)
       have q168 : 0 < (l0.length : Int) := of_decide_eq_true (ps181_)
       obtain ⟨ad168, e168, hx168_0⟩ := Kd.at_int HR0.out 0 p168 q168
       (try simp only [Int.reduceToNat] at hx168_0)
       cases e168
       have qi168 : (0 < l0.length) = True := eq_true (by omega)
       (try rw [show ((0 : Int)).toNat = 0 from rfl] at hx168_0)
       (try rw [Addr.add_zero'] at hx168_0)
       replace p168 := eq_true p168
       replace q168 := eq_true q168
       go_wp2
       go_ret3
       ls180_
      ·rw [if_neg c5] at H
       have c5b0 : decide ((l0.length : Int) < x5_1) = false := decide_eq_false c5
       clear c5
       have H' := Aside0.mk H
       clear H
       have p168 : 0 ≤ (0 : Int) := (by omega)
       have q168 : 0 < (l0.length : Int) := of_decide_eq_true (ps181_)
       obtain ⟨ad168, e168, hx168_0⟩ := Kd.at_int HR0.out 0 p168 q168
       (try simp only [Int.reduceToNat] at hx168_0)
       cases e168
       have qi168 : (0 < l0.length) = True := eq_true (by omega)
       (try rw [show ((0 : Int)).toNat = 0 from rfl] at hx168_0)
       (try rw [Addr.add_zero'] at hx168_0)
       replace p168 := eq_true p168
       replace q168 := eq_true q168
       have p169 : 0 ≤ (0 : Int) := (by omega)
       have q169 : 0 < (l0.length : Int) := of_decide_eq_true (ps181_)
       obtain ⟨ad169, e169, hx169_0⟩ := Kd.at_int HR0.out 0 p169 q169
       (try simp only [Int.reduceToNat] at hx169_0)
       obtain rfl : ad168 = ad169 := (by injection e169)
       have qi169 : (0 < l0.length) = True := eq_true (by omega)
       (try rw [show ((0 : Int)).toNat = 0 from rfl] at hx169_0)
       (try rw [Addr.add_zero'] at hx169_0)
       replace p169 := eq_true p169
       replace q169 := eq_true q169
       go_wp2
       go_loopg [7, 8] k1 (fun kq v7 v8 w' => ∃ (x7_2 : Int) (x8_2 : Int), v7 = .int .i64 x7_2 ∧ v8 = .int .i64 x8_2 ∧ Aside0 (shibbolethref01_Read.l1 kq l0 x5_1 x7_2 x8_2 = some (r1, r2, r3)) ∧ Aside0 (kq ≤ k1) ∧ Drawn0 w w')
       case atStart => exact ⟨(Int.tmod (wrap64 (rd l0 0)) 64), (1), (ps180_), (ps180_), H', ⟨Nat.le_refl _⟩, by repeat (first | exact Drawn0.refl _ | apply Drawn0.step)⟩
       case round =>
        clear H'
        try clear p1
        try clear q1
        try clear hx1
        try clear qi1
        try clear c2
        try clear c2b0
        try clear c2b1
        try clear c2b2
        try clear p2
        try clear c3
        try clear c3b0
        try clear c3b1
        try clear c4
        try clear c4b0
        try clear c5
        try clear c5b0
        try clear hx168_0
        try clear hx169_0
        try clear p168
        try clear p169
        try clear p2
        try clear q168
        try clear q169
        obtain ⟨x7_2, x8_2, rfl, rfl, HA, HK2, ⟨m2, rfl⟩⟩ := hrel
        cases gk with
        | zero => exact absurd HA.out (by simp [shibbolethref01_Read.l1])
        | succ k2 =>
         have H := HA.out
         clear HA
         simp only [shibbolethref01_Read.l1] at H
         by_cases c6 : x8_2 < x5_1
         ·rw [if_pos c6] at H
          have c6b0 : decide (x8_2 < x5_1) = true := decide_eq_true c6
          clear c6
          by_cases c7 : 0 ≤ x8_2
          ·rw [if_pos c7] at H
           have c7b0 : decide (0 ≤ x8_2) = true := decide_eq_true c7
           clear c7
           by_cases c8 : x8_2 < (l0.length : Int)
           ·rw [if_pos c8] at H
            have c8b0 : decide (x8_2 < (l0.length : Int)) = true := decide_eq_true c8
            clear c8
            have H' := Aside0.mk H
            clear H
            have p170 : 0 ≤ (x8_2 : Int) := of_decide_eq_true (ps181_)
            have q170 : x8_2 < (l0.length : Int) := of_decide_eq_true (ps181_)
            obtain ⟨ad170, e170, hx170_0⟩ := Kd.at_int HR0.out x8_2 p170 q170
            (try simp only [Int.reduceToNat] at hx170_0)
            obtain rfl : ad168 = ad170 := (by injection e170)
            replace p170 := eq_true p170
            replace q170 := eq_true q170
            go_wp2
            go_roundg k2
            case measure => have := HK1.out; have := HK2.out; omega
            case rel => exact ⟨(wrap64 ((wrap64 (256 * x7_2)) + (wrap64 (rd l0 x8_2)))), (wrap64 (x8_2 + 1)), (ps180_), (ps180_), H', ⟨by have := HK1.out; have := HK2.out; omega⟩, by repeat (first | exact Drawn0.refl _ | apply Drawn0.step)⟩
           ·rw [if_neg c8] at H
            exact absurd H (by simp)
          ·rw [if_neg c7] at H
           exact absurd H (by simp)
         ·rw [if_neg c6] at H
          have c6b0 : decide (x8_2 < x5_1) = false := decide_eq_false c6
          clear c6
          replace H := Option.bind_eq_some_iff.mp H
          obtain ⟨t171, A90, H⟩ := H
          replace H : (if t171 = x5_1 then (some (x7_2, x5_1, 0)) else (some (0, 0, 3))) = some (r1, r2, r3) := H
          have A9 := Aside0.mk A90
          clear A90
          by_cases c10 : t171 = x5_1
          ·rw [if_pos c10] at H
           have c10b0 : (t171 == x5_1) = true := beq_iff_eq.mpr c10
           have c10b1 : (t171 != x5_1) = false := bne_eq_false_iff_eq.mpr c10
           clear c10
           simp only [Option.some.injEq, Prod.mk.injEq] at H
           obtain ⟨rfl, rfl, rfl⟩ := H
           go_wp2_with (first | ((with_reducible refine gate_callee (f := 25) rfl ?_); refine goesL_ (some 46) rfl rfl Tryd.func25 (by kernel_rfl) rfl #[.int .i64 x7_2] rfl (by (try simp only [List.map_toArray, List.map_cons, List.map_nil]); first | done | rfl | (simp only [List.length_drop, List.length_take]; rfl)) ?_; (with_reducible refine (shibbolethref01_Size.calls k2 x7_2 t171 _ A9.out).mono ?_); rintro e w' ⟨rfl, ⟨nd, rfl⟩⟩; refine ⟨_, rfl, ?_⟩))
           go_ret3
           ls180_
          ·rw [if_neg c10] at H
           have c10b0 : (t171 == x5_1) = false := beq_eq_false_iff_ne.mpr c10
           have c10b1 : (t171 != x5_1) = true := bne_iff_ne.mpr c10
           simp only [Option.some.injEq, Prod.mk.injEq] at H
           obtain ⟨rfl, rfl, rfl⟩ := H
           go_wp2_with (first | ((with_reducible refine gate_callee (f := 25) rfl ?_); refine goesL_ (some 46) rfl rfl Tryd.func25 (by kernel_rfl) rfl #[.int .i64 x7_2] rfl (by (try simp only [List.map_toArray, List.map_cons, List.map_nil]); first | done | rfl | (simp only [List.length_drop, List.length_take]; rfl)) ?_; (with_reducible refine (shibbolethref01_Size.calls k2 x7_2 t171 _ A9.out).mono ?_); rintro e w' ⟨rfl, ⟨nd, rfl⟩⟩; refine ⟨_, rfl, ?_⟩))
           go_ret3
           ls180_
    ·rw [if_neg c3] at H
     exact absurd H (by simp)
end Go.Proofs.YtbcleckapamicaaDoor.QVa
namespace Go.Proofs.YtbcleckapamicaaDoor.VaP
open Go.RowKit Go.Proofs.YtbcleckapamicaaDoorW.PrintWords Go.Proofs.YtbcleckapamicaaDoorW.PrintLast Go.Proofs.YtbcleckapamicaaDoorW.PrintMore Go.Proofs.YtbcleckapamicaaDoor.QVa Go.Proofs.YtbcleckapamicaaDoor.Vn
open Go.Proofs.YtbcleckapamicaaDoor.Gv (bits_TrailingZeros.f slices_Clone_byte_byte.f varint_Size.f varint_Read.f)
set_option linter.unusedVariables false
set_option linter.unusedSimpArgs false
theorem rd_nat (l : List Int) (i : Nat) (h : i < l.length) : rd l (i : Int) = l[i] := by
  simp [rd, List.getD_eq_getElem?_getD, List.getElem?_eq_getElem h]
theorem size_f (n : Int) (k : Nat) (hk : 0 < k) : shibbolethref01_Size.f k n = some (vsize n) := by
  obtain ⟨k, rfl⟩ : ∃ m, k = m + 1 := ⟨k - 1, by omega⟩
  unfold shibbolethref01_Size.f vsize
  simp only [shibbolethref01_Size.j0]
  by_cases h1 : n < 0
  · simp [h1]
  · by_cases h2 : 4611686018427387903 < n
    · simp [h1, h2]
    · by_cases h3 : n < 64
      · simp [h1, h2, h3]
      · by_cases h4 : n < 16384
        · simp [h1, h2, h3, h4]
        · by_cases h5 : n < 1073741824
          · simp [h1, h2, h3, h4, h5]
          · simp [h1, h2, h3, h4, h5]
theorem or_mark (a : Int) (i m : Nat) (h0 : 0 ≤ a) (ha : a < 2 ^ i) (hm : m * 2 ^ i < 18446744073709551616) (hi : (2 : Int) ^ i ≤ 18446744073709551616) : Go.bits .or .u64 a ((m * 2 ^ i : Nat) : Int) = a + ((m * 2 ^ i : Nat) : Int) := by
  rw [u64_or a _ h0 (by omega) (by omega) (by omega), Int.toNat_natCast]
  have hc : ((a.toNat : Nat) : Int) < ((2 ^ i : Nat) : Int) := by rw [Int.toNat_of_nonneg h0]; simpa using ha
  have h := Nat.shiftLeft_add_eq_or_of_lt (i := i) (b := a.toNat) (Int.ofNat_lt.1 hc) m
  rw [Nat.shiftLeft_eq] at h
  rw [Nat.or_comm, ← h]
  omega
theorem shr_0 (x : Int) : shr .u64 x 0 = x := by simp [shr]
theorem shr_8 (x : Int) : shr .u64 x 8 = x / 256 := by simp [shr, IntKind.bits]
theorem shr_16 (x : Int) : shr .u64 x 16 = x / 65536 := by simp [shr, IntKind.bits]
theorem shr_24 (x : Int) : shr .u64 x 24 = x / 16777216 := by simp [shr, IntKind.bits]
theorem shr_32 (x : Int) : shr .u64 x 32 = x / 4294967296 := by simp [shr, IntKind.bits]
theorem shr_40 (x : Int) : shr .u64 x 40 = x / 1099511627776 := by simp [shr, IntKind.bits]
theorem shr_48 (x : Int) : shr .u64 x 48 = x / 281474976710656 := by simp [shr, IntKind.bits]
theorem shr_56 (x : Int) : shr .u64 x 56 = x / 72057594037927936 := by simp [shr, IntKind.bits]
theorem append_step (l : List Int) (x : Int) (j k : Nat) (hj : j ≤ 7) (hl : l.length < 140737488355328) : varint_Append.l0 (k + 1) l x (j : Int) = varint_Append.l0 k (l ++ [shr .u64 x ((8 * j : Nat) : Int) % 256]) x ((j : Int) - 1) := by
  simp only [varint_Append.l0]
  have e1 : wrap64 (8 * (j : Int)) = ((8 * j : Nat) : Int) := by unfold wrap64; omega
  have e2 : wrap64 ((j : Int) - 1) = (j : Int) - 1 := by unfold wrap64; omega
  rw [e1, e2, if_pos (by omega), if_pos (by omega), if_pos hl]
theorem append_end (l : List Int) (x : Int) (k : Nat) : varint_Append.l0 (k + 1) l x (-1) = some l := by
  simp only [varint_Append.l0]
  rw [if_neg (by omega)]
theorem append_f (l : List Int) (n : Int) (hl : l.length ≤ 1000000) (k : Nat) (hk : 9 < k) : varint_Append.f k l n = some (l ++ vbytes n) := by
  obtain ⟨k, rfl⟩ : ∃ m, k = m + 9 := ⟨k - 9, by omega⟩
  unfold varint_Append.f slices_Clone_byte_byte.f varint_Size.f
  rw [if_pos (by omega)]
  simp only [Option.bind_some]
  rcases vsize_cases n with ⟨hn, h, e⟩ | ⟨hn, h, e⟩ | ⟨hn, h, e⟩ | ⟨hn, h, e⟩ | ⟨hn, h, e⟩ <;> rw [h, e]
  · simp
  · have w1 : IntKind.u64.wrap n = n := by simp [IntKind.wrap, IntKind.bits, IntKind.signed]; omega
    have w2 : shl .u64 (IntKind.u64.wrap 0) (wrap64 ((wrap64 (8 * 1)) - 2)) = ((0 * 2 ^ 6 : Nat) : Int) := by decide +kernel
    have w3 : bits_TrailingZeros.f (IntKind.u64.wrap 1) = some 0 := by decide +kernel
    have w4 : wrap64 (1 - 1) = ((0 : Nat) : Int) := by decide +kernel
    rw [if_neg (by decide), w3]
    simp only [Option.bind_some]
    rw [if_pos (by decide +kernel), w1, w2, w4, or_mark n 6 0 hn.1 (by omega) (by omega) (by decide), show (k + 9) = (k + 7) + 1 + 1 from rfl, append_step _ _ 0 _ (by omega) (by omega), show (((0 : Nat) : Int) - 1) = -1 from rfl, append_end]
    congr 2
    simp only [show ((8 * 0 : Nat) : Int) = 0 from rfl, shr_0]
    congr 1; omega
  · have w1 : IntKind.u64.wrap n = n := by simp [IntKind.wrap, IntKind.bits, IntKind.signed]; omega
    have w2 : shl .u64 (IntKind.u64.wrap 1) (wrap64 ((wrap64 (8 * 2)) - 2)) = ((1 * 2 ^ 14 : Nat) : Int) := by decide +kernel
    have w3 : bits_TrailingZeros.f (IntKind.u64.wrap 2) = some 1 := by decide +kernel
    have w4 : wrap64 (2 - 1) = ((1 : Nat) : Int) := by decide +kernel
    rw [if_neg (by decide), w3]
    simp only [Option.bind_some]
    rw [if_pos (by decide +kernel), w1, w2, w4, or_mark n 14 1 (by omega) (by omega) (by omega) (by decide), show (k + 9) = (k + 6) + 1 + 1 + 1 from rfl, append_step _ _ 1 _ (by omega) (by omega), show (((1 : Nat) : Int) - 1) = ((0 : Nat) : Int) from rfl,
      append_step _ _ 0 _ (by omega) (by simp; omega), show (((0 : Nat) : Int) - 1) = -1 from rfl, append_end]
    simp only [show ((8 * 0 : Nat) : Int) = 0 from rfl, show ((8 * 1 : Nat) : Int) = 8 from rfl, shr_0, shr_8, List.append_assoc, List.cons_append, List.nil_append]
    congr 2
    simp only [List.cons.injEq, and_true]
    omega
  · have w1 : IntKind.u64.wrap n = n := by simp [IntKind.wrap, IntKind.bits, IntKind.signed]; omega
    have w2 : shl .u64 (IntKind.u64.wrap 2) (wrap64 ((wrap64 (8 * 4)) - 2)) = ((2 * 2 ^ 30 : Nat) : Int) := by decide +kernel
    have w3 : bits_TrailingZeros.f (IntKind.u64.wrap 4) = some 2 := by decide +kernel
    have w4 : wrap64 (4 - 1) = ((3 : Nat) : Int) := by decide +kernel
    rw [if_neg (by decide), w3]
    simp only [Option.bind_some]
    rw [if_pos (by decide +kernel), w1, w2, w4, or_mark n 30 2 (by omega) (by omega) (by omega) (by decide), show (k + 9) = (k + 4) + 1 + 1 + 1 + 1 + 1 from rfl, append_step _ _ 3 _ (by omega) (by omega), show (((3 : Nat) : Int) - 1) = ((2 : Nat) : Int) from rfl,
      append_step _ _ 2 _ (by omega) (by simp; omega), show (((2 : Nat) : Int) - 1) = ((1 : Nat) : Int) from rfl, append_step _ _ 1 _ (by omega) (by simp; omega), show (((1 : Nat) : Int) - 1) = ((0 : Nat) : Int) from rfl,
      append_step _ _ 0 _ (by omega) (by simp; omega), show (((0 : Nat) : Int) - 1) = -1 from rfl, append_end]
    simp only [show ((8 * 0 : Nat) : Int) = 0 from rfl, show ((8 * 1 : Nat) : Int) = 8 from rfl, show ((8 * 2 : Nat) : Int) = 16 from rfl, show ((8 * 3 : Nat) : Int) = 24 from rfl, shr_0, shr_8, shr_16, shr_24, List.append_assoc, List.cons_append, List.nil_append]
    congr 2
    simp only [List.cons.injEq, and_true]
    omega
  · have w1 : IntKind.u64.wrap n = n := by simp [IntKind.wrap, IntKind.bits, IntKind.signed]; omega
    have w2 : shl .u64 (IntKind.u64.wrap 3) (wrap64 ((wrap64 (8 * 8)) - 2)) = ((3 * 2 ^ 62 : Nat) : Int) := by decide +kernel
    have w3 : bits_TrailingZeros.f (IntKind.u64.wrap 8) = some 3 := by decide +kernel
    have w4 : wrap64 (8 - 1) = ((7 : Nat) : Int) := by decide +kernel
    rw [if_neg (by decide), w3]
    simp only [Option.bind_some]
    rw [if_pos (by decide +kernel), w1, w2, w4, or_mark n 62 3 (by omega) (by omega) (by omega) (by decide), show (k + 9) = k + 1 + 1 + 1 + 1 + 1 + 1 + 1 + 1 + 1 from rfl, append_step _ _ 7 _ (by omega) (by omega), show (((7 : Nat) : Int) - 1) = ((6 : Nat) : Int) from rfl,
      append_step _ _ 6 _ (by omega) (by simp; omega), show (((6 : Nat) : Int) - 1) = ((5 : Nat) : Int) from rfl, append_step _ _ 5 _ (by omega) (by simp; omega), show (((5 : Nat) : Int) - 1) = ((4 : Nat) : Int) from rfl,
      append_step _ _ 4 _ (by omega) (by simp; omega), show (((4 : Nat) : Int) - 1) = ((3 : Nat) : Int) from rfl, append_step _ _ 3 _ (by omega) (by simp; omega), show (((3 : Nat) : Int) - 1) = ((2 : Nat) : Int) from rfl,
      append_step _ _ 2 _ (by omega) (by simp; omega), show (((2 : Nat) : Int) - 1) = ((1 : Nat) : Int) from rfl, append_step _ _ 1 _ (by omega) (by simp; omega), show (((1 : Nat) : Int) - 1) = ((0 : Nat) : Int) from rfl,
      append_step _ _ 0 _ (by omega) (by simp; omega), show (((0 : Nat) : Int) - 1) = -1 from rfl, append_end]
    simp only [show ((8 * 0 : Nat) : Int) = 0 from rfl, show ((8 * 1 : Nat) : Int) = 8 from rfl, show ((8 * 2 : Nat) : Int) = 16 from rfl, show ((8 * 3 : Nat) : Int) = 24 from rfl, show ((8 * 4 : Nat) : Int) = 32 from rfl, show ((8 * 5 : Nat) : Int) = 40 from rfl, show ((8 * 6 : Nat) : Int) = 48 from rfl, show ((8 * 7 : Nat) : Int) = 56 from rfl,
      shr_0, shr_8, shr_16, shr_24, shr_32, shr_40, shr_48, shr_56, List.append_assoc, List.cons_append, List.nil_append]
    congr 2
    simp only [List.cons.injEq, and_true]
    omega
theorem read_l1 (l : List Int) (hB : Bytes l) (hl : l.length ≤ 100000) (q : Nat) (hq : q < 4) (hlen : 2 ^ q ≤ l.length) (hpos : 0 < l.length) : ∀ (d i k : Nat), 1 ≤ i → i + d = 2 ^ q → d + 1 < k →
    shibbolethref01_Read.l1 k l ((2 ^ q : Nat) : Int) (num (rd l 0 % 64) ((l.take i).drop 1)) (i : Int) = some (if vsize (num (rd l 0 % 64) ((l.take (2 ^ q)).drop 1)) = ((2 ^ q : Nat) : Int) then (num (rd l 0 % 64) ((l.take (2 ^ q)).drop 1), ((2 ^ q : Nat) : Int), 0) else (0, 0, 3)) := by
  have h8 : 2 ^ q ≤ 8 := by
    have : ∀ j : Fin 4, 2 ^ (j : Nat) ≤ 8 := by decide
    exact this ⟨q, hq⟩
  have hb0 : 0 ≤ rd l 0 ∧ rd l 0 ≤ 255 := bytes_rd hB 0 hpos
  intro d
  induction d with
  | zero =>
    intro i k h1 hi hk
    obtain ⟨k, rfl⟩ : ∃ m, k = m + 1 := ⟨k - 1, by omega⟩
    have e : i = 2 ^ q := by omega
    rw [shibbolethref01_Read.l1, if_neg (by omega), size_f _ _ (by omega), e]
    simp only [Option.bind_some]
    split <;> rfl
  | succ d ih =>
    intro i k h1 hi hk
    obtain ⟨k, rfl⟩ : ∃ m, k = m + 1 := ⟨k - 1, by omega⟩
    have hil : i < l.length := by omega
    have hbi := bytes_rd hB i hil
    have hsn : (l.take (i + 1)).drop 1 = (l.take i).drop 1 ++ [rd l i] := by
      rw [List.take_succ_eq_append_getElem hil, List.drop_append_of_le_length (by rw [List.length_take]; omega), rd_nat l i hil]
    have hr := num_range (rd l 0 % 64) (by omega) (by omega) ((l.take i).drop 1) ((hB.take _).drop _) ((l.take i).drop 1).length (Nat.le_refl _)
    rw [List.take_of_length_le (Nat.le_refl _)] at hr
    have hp := pow256 ((l.take i).drop 1).length (by rw [List.length_drop, List.length_take]; omega)
    rw [shibbolethref01_Read.l1, if_pos (by omega), if_pos (by omega), if_pos (by omega)]
    rw [show wrap64 (wrap64 (256 * num (rd l 0 % 64) ((l.take i).drop 1)) + wrap64 (rd l i)) = num (rd l 0 % 64) ((l.take (i + 1)).drop 1) from by rw [hsn, num_snoc]; unfold wrap64; omega,
      show wrap64 ((i : Int) + 1) = ((i + 1 : Nat) : Int) from by unfold wrap64; omega]
    exact ih (i + 1) k (by omega) (by omega) (by omega)
theorem read_l0 (l : List Int) (hB : Bytes l) (hl : l.length ≤ 100000) (hpos : 0 < l.length) (q : Nat) (hq : q < 4) (hqq : rd l 0 / 64 = (q : Int)) : ∀ (d i k : Nat), i + d = q → d + 20 < k →
    shibbolethref01_Read.l0 k l ((2 ^ i : Nat) : Int) (i : Int) = some (vread l) := by
  have hb0 : 0 ≤ rd l 0 ∧ rd l 0 ≤ 255 := bytes_rd hB 0 hpos
  have w0 : wrap64 (rd l 0) = rd l 0 := by unfold wrap64; omega
  have w1 : wrap64 (Int.tdiv (rd l 0) 64) = (q : Int) := by rw [Int.tdiv_eq_ediv_of_nonneg hb0.1, hqq]; unfold wrap64; omega
  have hv : vread l = if l.length < 2 ^ q then (0, 0, 2) else if vsize (num (rd l 0 % 64) ((l.take (2 ^ q)).drop 1)) = ((2 ^ q : Nat) : Int) then (num (rd l 0 % 64) ((l.take (2 ^ q)).drop 1), ((2 ^ q : Nat) : Int), 0) else (0, 0, 3) := by
    unfold vread
    rw [if_neg (by omega), hqq, Int.toNat_natCast]
  intro d
  induction d with
  | zero =>
    intro i k hi hk
    obtain ⟨k, rfl⟩ : ∃ m, k = m + 1 := ⟨k - 1, by omega⟩
    obtain rfl : i = q := by omega
    rw [shibbolethref01_Read.l0, if_pos (by omega), w0, w1, if_neg (by omega), hv]
    by_cases hs : l.length < 2 ^ i
    · rw [if_pos (by omega), if_pos hs]
    · rw [if_neg (by omega), if_neg hs, Int.tmod_eq_emod_of_nonneg hb0.1]
      have h1 : 1 ≤ 2 ^ i := Nat.one_le_two_pow
      have h8 : 2 ^ i ≤ 8 := by
        have : ∀ j : Fin 4, 2 ^ (j : Nat) ≤ 8 := by decide
        exact this ⟨i, hq⟩
      have h := read_l1 l hB hl i hq (by omega) hpos (2 ^ i - 1) 1 k (Nat.le_refl _) (by omega) (by omega)
      rw [show (l.take 1).drop 1 = [] from by rw [List.drop_eq_nil_iff, List.length_take]; omega] at h
      exact h
  | succ d ih =>
    intro i k hi hk
    obtain ⟨k, rfl⟩ : ∃ m, k = m + 1 := ⟨k - 1, by omega⟩
    have h8 : 2 ^ i ≤ 8 := by
      have : ∀ j : Fin 4, 2 ^ (j : Nat) ≤ 8 := by decide
      exact this ⟨i, by omega⟩
    rw [shibbolethref01_Read.l0, if_pos (by omega), w0, w1, if_pos (by omega), show wrap64 (((2 ^ i : Nat) : Int) * 2) = ((2 ^ (i + 1) : Nat) : Int) from by rw [Nat.pow_succ]; unfold wrap64; omega,
      show wrap64 ((i : Int) + 1) = ((i + 1 : Nat) : Int) from by unfold wrap64; omega]
    exact ih (i + 1) k (by omega) (by omega)
theorem read_f (l : List Int) (hB : Bytes l) (hl : l.length ≤ 100000) (k : Nat) (hk : 30 < k) : shibbolethref01_Read.f k l = some (vread l) := by
  unfold shibbolethref01_Read.f
  by_cases h0 : (l.length : Int) = 0
  · rw [if_pos h0]; unfold vread; rw [if_pos (by omega)]
  · rw [if_neg h0]
    have hb0 : 0 ≤ rd l 0 ∧ rd l 0 ≤ 255 := bytes_rd hB 0 (by omega)
    obtain ⟨q, hq⟩ : ∃ q : Nat, rd l 0 / 64 = (q : Int) := ⟨(rd l 0 / 64).toNat, by omega⟩
    exact read_l0 l hB hl (by omega) q (by omega) hq q 0 k (by omega) (by omega)
theorem bytes_of_wf {l : List Int} (h : ∀ x ∈ l, (Lit.int .u8 x).wf = true) : Bytes l := fun x hx => by
  have := h x hx
  simp [Lit.wf, IntKind.min, IntKind.max, IntKind.signed, IntKind.bits] at this
  exact ⟨by omega, by omega⟩
end Go.Proofs.YtbcleckapamicaaDoor.VaP
namespace Go.Proofs.YtbcleckapamicaaDoor.FrP
open Go.RowKit Go.Proofs.YtbcleckapamicaaDoorW.PrintWords Go.Proofs.YtbcleckapamicaaDoorW.PrintLast Go.Proofs.YtbcleckapamicaaDoorW.PrintMore Go.Proofs.YtbcleckapamicaaDoor.QFr Go.Proofs.YtbcleckapamicaaDoor.Vn
open Go.Proofs.YtbcleckapamicaaDoor.Gv (varint_Size.f)
open Go.Proofs.YtbcleckapamicaaDoor.Gf (ideal_Number.f tbytes)
open Go.Proofs.YtbcleckapamicaaDoor.QVa (varint_Append.f varint_Give.f shibbolethref01_Size.f)
open Go.Proofs.YtbcleckapamicaaDoor.VaP (append_f size_f)
set_option linter.unusedVariables false
set_option linter.unusedSimpArgs false
theorem fsame_l (l : List Int) (hl : l.length ≤ 9223372036854775806) : ∀ (d i k : Nat), i + d = l.length → d < k → shibbolethlaw06_same.l0 k l l (i : Int) = some true := by
  intro d
  induction d with
  | zero =>
    intro i k hi hk
    obtain ⟨k, rfl⟩ : ∃ m, k = m + 1 := ⟨k - 1, by omega⟩
    simp only [shibbolethlaw06_same.l0]
    rw [if_neg (by omega)]
  | succ d ih =>
    intro i k hi hk
    obtain ⟨k, rfl⟩ : ∃ m, k = m + 1 := ⟨k - 1, by omega⟩
    simp only [shibbolethlaw06_same.l0]
    rw [if_pos (by omega), if_pos (by omega), if_pos (by omega), if_pos trivial, show wrap64 ((i : Int) + 1) = ((i + 1 : Nat) : Int) from by unfold wrap64; omega]
    exact ih (i + 1) k (by omega) (by omega)
theorem fsame_f (l : List Int) (hl : l.length ≤ 9223372036854775806) (k : Nat) (hk : l.length < k) : shibbolethlaw06_same.f k l l = some true := by
  unfold shibbolethlaw06_same.f
  rw [if_pos rfl]
  exact fsame_l l hl l.length 0 k (by omega) hk
theorem w1 (i : Nat) (h : i < 100000) : wrap64 ((i : Int) + 1) = ((i + 1 : Nat) : Int) := by unfold wrap64; omega
theorem wm1 (i : Nat) (h0 : 0 < i) (h : i < 100000) : wrap64 ((i : Int) - 1) = ((i - 1 : Nat) : Int) := by unfold wrap64; omega
def cv (l : List S102) : List S103 := l.map fun s => ⟨s.f0, s.f1⟩
theorem cv_len (l : List S102) : (cv l).length = l.length := by simp [cv]
theorem rd_cv (l : List S102) (i : Nat) (h : i < l.length) : rd_T103 (cv l) (i : Int) = ⟨(rd_T102 l (i : Int)).f0, (rd_T102 l (i : Int)).f1⟩ := by
  simp [rd_T103, rd_T102, cv, List.getD_eq_getElem?_getD, List.getElem?_map, List.getElem?_eq_getElem h]
def okAt (l : List S103) (j : Nat) : Prop := 0 ≤ (rd_T103 l (j : Int)).f0 ∧ (rd_T103 l (j : Int)).f0 ≤ (rd_T103 l (j : Int)).f1 ∧ (rd_T103 l (j : Int)).f1 ≤ 4611686018427387903 ∧ (0 < j → (rd_T103 l (j : Int)).f1 ≤ (rd_T103 l ((j - 1 : Nat) : Int)).f0 - 2)
def spansOK (l : List S103) : Prop := (∀ j, j < l.length → okAt l j) ∧ 0 < l.length ∧ l.length ≤ 32
theorem vsize_zero (n : Int) : vsize n = 0 ↔ ¬ (0 ≤ n ∧ n ≤ 4611686018427387903) := by unfold vsize; (repeat' split) <;> omega
theorem vsize_pos (n : Int) : 0 < vsize n ↔ (0 ≤ n ∧ n ≤ 4611686018427387903) := by unfold vsize; (repeat' split) <;> omega
theorem spanned_l (l : List S103) (hl : l.length ≤ 100) : ∀ (d i k : Nat), i + d = l.length → d < k → (∀ j, j < i → okAt l j) → ∃ b, frame_spanned.l0 k l l (l.length : Int) (i : Int) = some b ∧ (b = true ↔ spansOK l) := by
  intro d
  induction d with
  | zero =>
    intro i k hi hk hok
    obtain ⟨k, rfl⟩ : ∃ m, k = m + 1 := ⟨k - 1, by omega⟩
    simp only [frame_spanned.l0]
    rw [if_neg (by omega)]
    by_cases h0 : (l.length : Int) > 0
    · rw [if_pos h0]
      refine ⟨_, rfl, ?_⟩
      rw [decide_eq_true_eq]
      exact ⟨fun h => ⟨fun j hj => hok j (by omega), by omega, by omega⟩, fun h => by have := h.2.2; omega⟩
    · rw [if_neg h0]
      exact ⟨_, rfl, ⟨fun h => absurd h (by decide), fun h => by have := h.2.1; omega⟩⟩
  | succ d ih =>
    intro i k hi hk hok
    obtain ⟨k, rfl⟩ : ∃ m, k = m + 1 := ⟨k - 1, by omega⟩
    have hi' : i < l.length := by omega
    simp only [frame_spanned.l0]
    rw [if_pos (by omega), if_pos (by omega), if_pos (by omega)]
    have bad : ∀ (h : ¬ okAt l i), ∃ b, some false = some b ∧ (b = true ↔ spansOK l) := fun h => ⟨false, rfl, ⟨fun h' => absurd h' (by decide), fun h' => absurd (h'.1 i hi') h⟩⟩
    by_cases h1 : (rd_T103 l (i : Int)).f0 < 0
    · rw [if_pos h1]; exact bad (fun h => by have := h.1; omega)
    rw [if_neg h1]
    by_cases h2 : (rd_T103 l (i : Int)).f0 > (rd_T103 l (i : Int)).f1
    · rw [if_pos h2]; exact bad (fun h => by have := h.2.1; omega)
    rw [if_neg h2]
    unfold varint_Size.f
    simp only [Option.bind_some]
    by_cases h3 : vsize (rd_T103 l (i : Int)).f1 = 0
    · rw [if_pos h3]; exact bad (fun h => by have := (vsize_zero _).1 h3; have := h.1; have := h.2.1; have := h.2.2.1; omega)
    rw [if_neg h3]
    have h3' : (rd_T103 l (i : Int)).f1 ≤ 4611686018427387903 := by
      rw [vsize_zero] at h3
      omega
    have step : okAt l i → ∃ b, frame_spanned.l0 k l l (l.length : Int) ((i + 1 : Nat) : Int) = some b ∧ (b = true ↔ spansOK l) := fun h => ih (i + 1) k (by omega) (by omega) (fun j hj => by
      rcases Nat.lt_or_ge j i with hji | hji
      · exact hok j hji
      · have : j = i := by omega
        rw [this]; exact h)
    by_cases h4 : (i : Int) > 0
    · rw [if_pos h4, wm1 i (by omega) (by omega), w1 i (by omega), if_pos (by omega), if_pos (by omega)]
      have hp := hok (i - 1) (by omega)
      have hw : wrap64 ((rd_T103 l ((i - 1 : Nat) : Int)).f0 - 2) = (rd_T103 l ((i - 1 : Nat) : Int)).f0 - 2 := by have := hp.1; have := hp.2.1; have := hp.2.2.1; unfold wrap64; omega
      rw [hw]
      by_cases h5 : (rd_T103 l (i : Int)).f1 > (rd_T103 l ((i - 1 : Nat) : Int)).f0 - 2
      · rw [if_pos h5]; exact bad (fun h => by have := h.2.2.2 (by omega); omega)
      · rw [if_neg h5]; exact step ⟨by omega, by omega, h3', fun _ => by omega⟩
    · rw [if_neg h4, w1 i (by omega)]
      exact step ⟨by omega, by omega, h3', fun h => by omega⟩
theorem spanned_f (l : List S103) (hl : l.length ≤ 100) (k : Nat) (hk : l.length < k) : ∃ b, frame_spanned.f k l = some b ∧ (b = true ↔ spansOK l) := by
  unfold frame_spanned.f
  exact spanned_l l hl l.length 0 k (by omega) hk (fun j hj => by omega)
theorem rspans_l (l : List S102) (a0 a1 a3 a5 : Int) (l4 : List Int) (hl : l.length ≤ 100) : ∀ (d i k : Nat), i + d = l.length → 2 * d + 3 < k → (∀ j, j < i → okAt (cv l) j) → ∃ b, shibbolethref06_Right.l0 k (i : Int) a0 a1 l a3 l4 a5 = some b ∧ (b = true ↔ spansOK (cv l)) := by
  intro d
  induction d with
  | zero =>
    intro i k hi hk hok
    obtain ⟨k, rfl⟩ : ∃ m, k = m + 1 := ⟨k - 1, by omega⟩
    simp only [shibbolethref06_Right.l0]
    rw [if_neg (by omega)]
    have hc := cv_len l
    by_cases h0 : (l.length : Int) ≥ 1
    · rw [if_pos h0]
      refine ⟨_, rfl, ?_⟩
      rw [decide_eq_true_eq]
      exact ⟨fun h => ⟨fun j hj => hok j (by omega), by omega, by omega⟩, fun h => by have := h.2.2; omega⟩
    · rw [if_neg h0]
      exact ⟨_, rfl, ⟨fun h => absurd h (by decide), fun h => by have := h.2.1; omega⟩⟩
  | succ d ih =>
    intro i k hi hk hok
    obtain ⟨k, rfl⟩ : ∃ m, k = m + 2 := ⟨k - 2, by omega⟩
    have hc := cv_len l
    have hi' : i < (cv l).length := by omega
    have e := rd_cv l i (by omega)
    have e0 : (rd_T103 (cv l) (i : Int)).f0 = (rd_T102 l (i : Int)).f0 := by rw [e]
    have e1 : (rd_T103 (cv l) (i : Int)).f1 = (rd_T102 l (i : Int)).f1 := by rw [e]
    rw [show k + 2 = (k + 1) + 1 from rfl]
    simp only [shibbolethref06_Right.l0]
    rw [if_pos (by omega), if_pos (by omega)]
    have bad : ∀ (h : ¬ okAt (cv l) i), ∃ b, some false = some b ∧ (b = true ↔ spansOK (cv l)) := fun h => ⟨false, rfl, ⟨fun h' => absurd h' (by decide), fun h' => absurd (h'.1 i hi') h⟩⟩
    by_cases h1 : (rd_T102 l (i : Int)).f0 < 0
    · rw [if_pos h1]; simp only [shibbolethref06_Right.j4]; rw [if_pos trivial]; exact bad (fun h => by have := h.1; omega)
    rw [if_neg h1]
    by_cases h2 : (rd_T102 l (i : Int)).f1 < (rd_T102 l (i : Int)).f0
    · rw [if_pos h2]; simp only [shibbolethref06_Right.j4]; rw [if_pos trivial]; exact bad (fun h => by have := h.2.1; omega)
    rw [if_neg h2, size_f _ _ (by omega)]
    simp only [Option.bind_some, shibbolethref06_Right.j4]
    by_cases h3 : vsize (rd_T102 l (i : Int)).f1 = 0
    · rw [if_pos (by simp [h3])]; exact bad (fun h => by have := (vsize_zero _).1 h3; have := h.1; have := h.2.1; have := h.2.2.1; omega)
    rw [if_neg (by simp [h3])]
    have h3' : (rd_T102 l (i : Int)).f1 ≤ 4611686018427387903 := by
      rw [vsize_zero] at h3
      omega
    have step : okAt (cv l) i → ∃ b, shibbolethref06_Right.l0 k ((i + 1 : Nat) : Int) a0 a1 l a3 l4 a5 = some b ∧ (b = true ↔ spansOK (cv l)) := fun h => ih (i + 1) k (by omega) (by omega) (fun j hj => by
      rcases Nat.lt_or_ge j i with hji | hji
      · exact hok j hji
      · have : j = i := by omega
        rw [this]; exact h)
    by_cases h4 : (i : Int) > 0
    · rw [if_pos h4, wm1 i (by omega) (by omega), w1 i (by omega), if_pos (by omega), if_pos (by omega)]
      have hp := hok (i - 1) (by omega)
      have ep := rd_cv l (i - 1) (by omega)
      have ep0 : (rd_T103 (cv l) ((i - 1 : Nat) : Int)).f0 = (rd_T102 l ((i - 1 : Nat) : Int)).f0 := by rw [ep]
      have hp1 := hp.1
      have hp2 := hp.2.1
      have hp3 := hp.2.2.1
      have hw : wrap64 ((rd_T102 l ((i - 1 : Nat) : Int)).f0 - 2) = (rd_T102 l ((i - 1 : Nat) : Int)).f0 - 2 := by unfold wrap64; omega
      rw [hw]
      by_cases h6 : (rd_T102 l ((i - 1 : Nat) : Int)).f0 < 2
      · rw [if_pos h6]; exact bad (fun h => by have := h.2.2.2 (by omega); have := h.1; have := h.2.1; omega)
      rw [if_neg h6]
      by_cases h5 : (rd_T102 l (i : Int)).f1 > (rd_T102 l ((i - 1 : Nat) : Int)).f0 - 2
      · rw [if_pos h5]; exact bad (fun h => by have := h.2.2.2 (by omega); omega)
      · rw [if_neg h5]; exact step ⟨by omega, by omega, by omega, fun _ => by omega⟩
    · rw [if_neg h4, w1 i (by omega)]
      exact step ⟨by omega, by omega, by omega, fun h => by omega⟩
def fright (a0 a1 : Int) (l2 : List S103) (a3 : Int) (l4 : List Int) (a5 : Int) : Prop :=
  (a0 = 0 ∧ 1 ≤ a1 ∧ a1 ≤ 1200 ∧ l2.length = 0 ∧ a3 = 0 ∧ l4.length = 0 ∧ a5 = 0) ∨
  ((a0 = 1 ∨ a0 = 30) ∧ a1 = 0 ∧ l2.length = 0 ∧ a3 = 0 ∧ l4.length = 0 ∧ a5 = 0) ∨
  (a0 = 2 ∧ spansOK l2 ∧ a1 = 0 ∧ a3 = 0 ∧ l4.length = 0 ∧ a5 = 0) ∨
  (a0 = 6 ∧ 0 ≤ a3 ∧ a3 ≤ 1048576 ∧ 1 ≤ l4.length ∧ l4.length ≤ 1000 ∧ a1 = 0 ∧ l2.length = 0 ∧ a5 = 0) ∨
  (a0 = 7 ∧ 1 ≤ a5 ∧ a5 ≤ 65536 ∧ a1 = 0 ∧ l2.length = 0 ∧ a3 = 0 ∧ l4.length = 0) ∨
  (a0 = 8 ∧ 1 ≤ a5 ∧ a5 ≤ 65536 ∧ 0 ≤ a1 ∧ a1 ≤ 4611686018427387903 ∧ l2.length = 0 ∧ a3 = 0 ∧ l4.length = 0) ∨
  (a0 = 28 ∧ 0 ≤ a1 ∧ a1 ≤ 4611686018427387903 ∧ l2.length = 0 ∧ a3 = 0 ∧ l4.length = 0 ∧ a5 = 0)
theorem bare_f (a0 a1 : Int) (l2 : List S103) (a3 : Int) (l4 : List Int) (a5 : Int) (b1 b2 b3 b4 : Bool) : frame_bare.f a0 a1 l2 a3 l4 a5 b1 b2 b3 b4 =
    some (decide ((b1 = true ∨ a1 = 0) ∧ (b2 = true ∨ l2.length = 0) ∧ (b3 = true ∨ a3 = 0 ∧ l4.length = 0) ∧ (b4 = true ∨ a5 = 0))) := by
  unfold frame_bare.f
  cases b1 <;> cases b2 <;> cases b3 <;> cases b4 <;> simp <;> (repeat' split) <;> simp_all [Bool.beq_eq_decide_eq]
theorem tbytes_pos (h : Int) : 0 < (tbytes h).length ↔ (1 ≤ h ∧ h ≤ 65536) := by
  unfold tbytes; split
  · simp; omega
  · simp; omega
theorem some_decide {p q : Prop} {_ : Decidable p} {_ : Decidable q} (h : p ↔ q) : some (decide p) = some (decide q) := by simp [h]
theorem true_decide {q : Prop} {_ : Decidable q} (h : q) : some true = some (decide q) := by simp [h]
theorem false_decide {q : Prop} {_ : Decidable q} (h : ¬ q) : some false = some (decide q) := by simp [h]
theorem kinds (a0 : Int) : a0 = 0 ∨ a0 = 1 ∨ a0 = 30 ∨ a0 = 2 ∨ a0 = 6 ∨ a0 = 7 ∨ a0 = 8 ∨ a0 = 28 ∨ (a0 ≠ 0 ∧ a0 ≠ 1 ∧ a0 ≠ 30 ∧ a0 ≠ 2 ∧ a0 ≠ 6 ∧ a0 ≠ 7 ∧ a0 ≠ 8 ∧ a0 ≠ 28) := by omega
theorem fright_else (a0 a1 : Int) (l2 : List S103) (a3 : Int) (l4 : List Int) (a5 : Int) (h : a0 ≠ 0 ∧ a0 ≠ 1 ∧ a0 ≠ 30 ∧ a0 ≠ 2 ∧ a0 ≠ 6 ∧ a0 ≠ 7 ∧ a0 ≠ 8 ∧ a0 ≠ 28) : ¬ fright a0 a1 l2 a3 l4 a5 := by
  intro hf
  unfold fright at hf
  rcases hf with q | q | q | q | q | q | q <;> have := q.1 <;> omega
set_option maxHeartbeats 2000000 in
theorem right_f (a0 a1 : Int) (l2 : List S103) (a3 : Int) (l4 : List Int) (a5 : Int) (hl : l2.length ≤ 100) (k : Nat) (hk : 200 < k) : ∃ b, frame_Right.f k a0 a1 l2 a3 l4 a5 = some b ∧ (b = true ↔ fright a0 a1 l2 a3 l4 a5) := by
  obtain ⟨k, rfl⟩ : ∃ m, k = m + 1 := ⟨k - 1, by omega⟩
  have ht := tbytes_pos a5
  have hv := vsize_pos a1
  obtain ⟨bs, hbs, hbi⟩ := spanned_f l2 hl k (by omega)
  suffices h : frame_Right.f (k + 1) a0 a1 l2 a3 l4 a5 = some (@decide (fright a0 a1 l2 a3 l4 a5) (Classical.propDecidable _)) from ⟨_, h, by simp⟩
  unfold frame_Right.f ideal_Number.f varint_Size.f
  simp only [Option.bind_some, bare_f, frame_Right.j0, hbs]
  have hd1 : decide (((tbytes a5).length : Int) > 0) = decide (1 ≤ a5 ∧ a5 ≤ 65536) := by simp only [decide_eq_decide]; omega
  have hd2 : decide (vsize a1 > 0) = decide (0 ≤ a1 ∧ a1 ≤ 4611686018427387903) := by simp only [decide_eq_decide]; omega
  rw [hd1, hd2]
  clear hd1 hd2 ht hv hbs
  rcases kinds a0 with h | h | h | h | h | h | h | h | h
  iterate 3
    · subst h
      clear hbi
      simp only [fright, ne_eq, Int.reduceEq, reduceIte, not_true_eq_false, not_false_eq_true, false_and, true_and, or_false, false_or, and_true, and_false, or_true, true_or, decide_eq_true_eq, Bool.false_eq_true, beq_iff_eq, eq_self, if_true, if_false, Int.reduceBEq, or_self, gt_iff_lt]
      repeat' split
      all_goals first | exact false_decide id | exact false_decide (by omega) | exact true_decide (by omega) | exact some_decide (by omega) | (exfalso; omega)
  · subst h
    by_cases hS : spansOK l2
    · obtain rfl : bs = true := hbi.2 hS
      simp only [hS, fright, ne_eq, Int.reduceEq, reduceIte, not_true_eq_false, not_false_eq_true, false_and, true_and, or_false, false_or, and_true, and_false, or_true, true_or, decide_eq_true_eq, Bool.false_eq_true, beq_iff_eq, eq_self, if_true, if_false, Int.reduceBEq, or_self, gt_iff_lt]
      try exact some_decide (by omega)
    · obtain rfl : bs = false := by cases bs with | false => rfl | true => exact absurd (hbi.1 rfl) hS
      simp only [hS, fright, ne_eq, Int.reduceEq, reduceIte, not_true_eq_false, not_false_eq_true, false_and, true_and, or_false, false_or, and_true, and_false, or_true, true_or, decide_eq_true_eq, Bool.false_eq_true, beq_iff_eq, eq_self, if_true, if_false, Int.reduceBEq, or_self, gt_iff_lt]
      try exact false_decide id
  iterate 4
    · subst h
      clear hbi
      simp only [fright, ne_eq, Int.reduceEq, reduceIte, not_true_eq_false, not_false_eq_true, false_and, true_and, or_false, false_or, and_true, and_false, or_true, true_or, decide_eq_true_eq, Bool.false_eq_true, beq_iff_eq, eq_self, if_true, if_false, Int.reduceBEq, or_self, gt_iff_lt]
      repeat' split
      all_goals first | exact false_decide id | exact false_decide (by omega) | exact true_decide (by omega) | exact some_decide (by omega) | (exfalso; omega)
  · have hf := fright_else a0 a1 l2 a3 l4 a5 h
    obtain ⟨h0, h1, h30, h2, h6, h7, h8, h28⟩ := h
    simp only [h0, h1, h30, h2, h6, h7, h8, h28, if_false, beq_iff_eq]
    exact false_decide hf
def rest (a0 a1 a3 : Int) (l4 : List Int) (bs x3 x4 : Bool) : Bool :=
  if a0 = 0 then decide (1 ≤ a1 ∧ a1 ≤ 1200) else if a0 = 1 ∨ a0 = 30 then true else if a0 = 2 then bs else if a0 = 6 then decide (0 ≤ a3 ∧ a3 ≤ 1048576 ∧ 1 ≤ l4.length ∧ l4.length ≤ 1000) else
  if a0 = 7 then x3 else if a0 = 8 then (x3 && x4) else if a0 = 28 then x4 else false
theorem j1_f (a0 a1 : Int) (l2 : List S102) (a3 : Int) (l4 : List Int) (a5 : Int) (k : Nat) (bs x3 x4 x78 : Bool) (hbs : shibbolethref06_Right.l0 k 0 a0 a1 l2 a3 l4 a5 = some bs) :
    shibbolethref06_Right.j1 (k + 2) x3 x4 x78 a0 a1 l2 a3 l4 a5 = some (if x78 = true then false else rest a0 a1 a3 l4 bs x3 x4) := by
  rw [show k + 2 = (k + 1) + 1 from rfl]
  simp only [shibbolethref06_Right.j1, shibbolethref06_Right.j2, hbs]
  unfold rest
  cases x78
  · simp only [Bool.false_eq_true, if_false, beq_iff_eq]
    repeat' split
    all_goals first | rfl | (exfalso; omega) | (subst_vars; simp_all; done) | (simp only [Option.some.injEq, Bool.true_eq, Bool.false_eq, decide_eq_true_eq, decide_eq_false_iff_not, decide_eq_decide]; omega) | (cases x3 <;> cases x4 <;> simp_all)
  · rfl
set_option maxHeartbeats 8000000 in
theorem j0_f (a0 a1 : Int) (l2 : List S102) (a3 : Int) (l4 : List Int) (a5 : Int) (k : Nat) (bs x3 : Bool) (hbs : shibbolethref06_Right.l0 k 0 a0 a1 l2 a3 l4 a5 = some bs) :
    shibbolethref06_Right.j0 (k + 3) x3 a0 a1 l2 a3 l4 a5 = some (if (a0 ≠ 2 ∧ 0 < l2.length) ∨ (a0 ≠ 6 ∧ (a3 ≠ 0 ∨ 0 < l4.length)) ∨ (a0 ≠ 7 ∧ a0 ≠ 8 ∧ a5 ≠ 0) ∨ (a0 ≠ 0 ∧ a0 ≠ 8 ∧ a0 ≠ 28 ∧ a1 ≠ 0) then false else
      rest a0 a1 a3 l4 bs x3 (decide (0 ≤ a1 ∧ a1 ≤ 4611686018427387903))) := by
  rw [show k + 3 = (k + 2) + 1 from rfl]
  have hv := vsize_pos a1
  have hd2 : decide (vsize a1 > 0) = decide (0 ≤ a1 ∧ a1 ≤ 4611686018427387903) := by simp only [decide_eq_decide]; omega
  simp only [shibbolethref06_Right.j0, size_f _ (k + 2) (by omega), Option.bind_some, j1_f a0 a1 l2 a3 l4 a5 k bs _ _ _ hbs, hd2]
  clear hv hd2 hbs
  generalize rest a0 a1 a3 l4 bs x3 (decide (0 ≤ a1 ∧ a1 ≤ 4611686018427387903)) = R
  simp only [Bool.false_eq_true, if_false, if_true, bne_iff_ne, decide_eq_true_eq]
  repeat' split
  all_goals first | rfl | (exfalso; omega)
set_option maxHeartbeats 8000000 in
theorem Right_f (a0 a1 : Int) (l2 : List S102) (a3 : Int) (l4 : List Int) (a5 : Int) (hl : l2.length ≤ 100) (k : Nat) (hk : 300 < k) : ∃ b, shibbolethref06_Right.f k a0 a1 l2 a3 l4 a5 = some b ∧ (b = true ↔ fright a0 a1 (cv l2) a3 l4 a5) := by
  obtain ⟨k, rfl⟩ : ∃ m, k = m + 3 := ⟨k - 3, by omega⟩
  have hc := cv_len l2
  obtain ⟨bs, hbs, hbi⟩ := rspans_l l2 a0 a1 a3 a5 l4 hl l2.length 0 k (by omega) (by omega) (fun j hj => by omega)
  have hbs : shibbolethref06_Right.l0 k 0 a0 a1 l2 a3 l4 a5 = some bs := hbs
  suffices h : shibbolethref06_Right.f (k + 3) a0 a1 l2 a3 l4 a5 = some (@decide (fright a0 a1 (cv l2) a3 l4 a5) (Classical.propDecidable _)) from ⟨_, h, by simp⟩
  have e : shibbolethref06_Right.f (k + 3) a0 a1 l2 a3 l4 a5 = shibbolethref06_Right.j0 (k + 3) (decide (1 ≤ a5 ∧ a5 ≤ 65536)) a0 a1 l2 a3 l4 a5 := by
    unfold shibbolethref06_Right.f
    split
    · congr 1; simp only [decide_eq_decide]; omega
    · congr 1; symm; rw [decide_eq_false_iff_not]; omega
  rw [e, j0_f _ _ _ _ _ _ _ bs _ hbs]
  clear e hbs
  rcases kinds a0 with h | h | h | h | h | h | h | h | h
  iterate 3
    · subst h
      clear hbi
      simp only [rest, fright, ne_eq, Int.reduceEq, reduceIte, not_true_eq_false, not_false_eq_true, false_and, true_and, or_false, false_or, and_true, and_false, or_true, true_or, decide_eq_true_eq, Bool.false_eq_true, beq_iff_eq, eq_self, if_true, if_false, Int.reduceBEq, or_self, gt_iff_lt]
      repeat' split
      all_goals first | exact false_decide id | exact false_decide (by omega) | exact true_decide (by omega) | exact some_decide (by omega) | (exfalso; omega)
  · subst h
    by_cases hS : spansOK (cv l2)
    · obtain rfl : bs = true := hbi.2 hS
      simp only [hS, rest, fright, ne_eq, Int.reduceEq, reduceIte, not_true_eq_false, not_false_eq_true, false_and, true_and, or_false, false_or, and_true, and_false, or_true, true_or, decide_eq_true_eq, Bool.false_eq_true, beq_iff_eq, eq_self, if_true, if_false, Int.reduceBEq, or_self, gt_iff_lt]
      repeat' split
      all_goals first | exact false_decide id | exact false_decide (by omega) | exact true_decide (by omega) | exact some_decide (by omega) | (exfalso; omega)
    · obtain rfl : bs = false := by cases bs with | false => rfl | true => exact absurd (hbi.1 rfl) hS
      simp only [hS, rest, fright, ne_eq, Int.reduceEq, reduceIte, not_true_eq_false, not_false_eq_true, false_and, true_and, or_false, false_or, and_true, and_false, or_true, true_or, decide_eq_true_eq, Bool.false_eq_true, beq_iff_eq, eq_self, if_true, if_false, Int.reduceBEq, or_self, gt_iff_lt]
      repeat' split
      all_goals first | exact false_decide id | exact false_decide (by omega) | exact true_decide (by omega) | exact some_decide (by omega) | (exfalso; omega)
  iterate 4
    · subst h
      clear hbi
      simp only [rest, Bool.and_eq_decide, fright, ne_eq, Int.reduceEq, reduceIte, not_true_eq_false, not_false_eq_true, false_and, true_and, or_false, false_or, and_true, and_false, or_true, true_or, decide_eq_true_eq, Bool.false_eq_true, beq_iff_eq, eq_self, if_true, if_false, Int.reduceBEq, or_self, gt_iff_lt]
      repeat' split
      all_goals first | exact false_decide id | exact false_decide (by omega) | exact true_decide (by omega) | exact some_decide (by omega) | (exfalso; omega)
  · have hf := fright_else a0 a1 (cv l2) a3 l4 a5 h
    obtain ⟨h0, h1, h30, h2, h6, h7, h8, h28⟩ := h
    simp only [rest, h0, h1, h30, h2, h6, h7, h8, h28, if_false, or_self]
    split <;> exact false_decide hf
end Go.Proofs.YtbcleckapamicaaDoor.FrP
namespace Go.Proofs.YtbcleckapamicaaDoor.Fd
open Go Go.RowKit Go.Proofs.YtbcleckapamicaaDoorW.PrintWords Go.Proofs.YtbcleckapamicaaDoorW.PrintLast Go.Proofs.YtbcleckapamicaaDoorW.PrintMore
open Go.Proofs.YtbcleckapamicaaDoor.QFr (S58 S103 k58 k103 k103_mkM)
open Go.Proofs.YtbcleckapamicaaDoor.Onl (Only)
open Go.Proofs.YtbcleckapamicaaDoor.Vn (vread vsize num)
open Go.Proofs.YtbcleckapamicaaDoor.FrP (fright okAt spansOK)
set_option linter.unusedVariables false
set_option linter.unusedSimpArgs false
instance (l : List S103) (j : Nat) : Decidable (okAt l j) := by unfold okAt; infer_instance
instance (l : List S103) : Decidable (spansOK l) := by unfold spansOK; infer_instance
instance (a0 a1 : Int) (l2 : List S103) (a3 : Int) (l4 : List Int) (a5 : Int) : Decidable (fright a0 a1 l2 a3 l4 a5) := by unfold fright; infer_instance
def fr58 (f : S58) : Prop := fright f.f0 f.f1 f.f2 f.f3 f.f4 f.f5
instance (f : S58) : Decidable (fr58 f) := by unfold fr58; infer_instance
def next : List Int → Option (S58 × List Int)
  | [] => none
  | k :: l => (body k l).bind fun q => if fr58 q.1 then some q else none
def frames : Nat → List Int → Option (List S58)
  | 0, _ => none
  | _ + 1, [] => some []
  | n + 1, k :: l => (next (k :: l)).bind fun q => (frames n q.2).map (q.1 :: ·)
theorem setIn_push (h : Array Obj) (o o' : Obj) : (h.push o).setIfInBounds h.size o' = h.push o' := by
  apply Array.ext_getElem?
  intro i
  rw [Array.getElem?_setIfInBounds]
  by_cases e : h.size = i
  · subst e; simp
  · have e' : ¬ i = h.size := fun q => e q.symm
    simp [e, e', Array.getElem?_push]
theorem ins_run (w : World) (es : Array MapEntry) (n : Nat) (k : Int) (v : Value) (hf : Instr.findNow (.int .u8) (.int .u8 k) es.toList 0 = some none) :
    (Instr.mapUpdate 143 (.map (some w.heap.size)) (.int .u8 k) v).run Tryd.prog (w.alloc (.map es n)) = .ok () (w.alloc (.map (es.push { key := .int .u8 k, val := v, born := n }) (n + 1))) := by
  have hb : (w.alloc (.map es n)).heap[w.heap.size]? = some (.map es n) := World.alloc_heap_new _ _
  have hc : (Instr.checkKey false 10000 5 (.int .u8 k)).run Tryd.prog (w.alloc (.map es n)) = .ok () (w.alloc (.map es n)) := MapKept.run_checkKey (k := .int .u8 k) Tryd.underlying5 (by simp [MapKept.IsKey]) false 9999
  simp [Instr.mapUpdate, run_underlying Tryd.underlying143, MapKept.run_getObj_map hb, hc, MapKept.run_findKey Tryd.underlying5 hf, MapKept.run_setObj_map _ hb, Result.andThen]
  simp only [World.alloc, setIn_push]
theorem look_run (w : World) (r : Nat) (es : Array MapEntry) (n : Nat) (k : Int) (i : Nat) (v : Value) (hb : w.heap[r]? = some (.map es n)) (hf : Instr.findNow (.int .u8) (.int .u8 k) es.toList 0 = some (some (i, v))) :
    (Instr.lookup 143 (.map (some r)) (.int .u8 k) false).run Tryd.prog w = .ok v w := by
  have hc : (Instr.checkKey es.isEmpty 10000 5 (.int .u8 k)).run Tryd.prog w = .ok () w := MapKept.run_checkKey (k := .int .u8 k) Tryd.underlying5 (by simp [MapKept.IsKey]) _ 9999
  simp [Instr.lookup, run_underlying Tryd.underlying143, MapKept.run_getObj_map hb, hc, MapKept.run_findKey Tryd.underlying5 hf, Result.andThen]
theorem zero129 (w : World) : (zeroValue 129).run Tryd.prog w = .ok .nilFunc w := by kernel_rfl
theorem look_none (w : World) (r : Nat) (es : Array MapEntry) (n : Nat) (k : Int) (hb : w.heap[r]? = some (.map es n)) (hf : Instr.findNow (.int .u8) (.int .u8 k) es.toList 0 = some none) :
    (Instr.lookup 143 (.map (some r)) (.int .u8 k) false).run Tryd.prog w = .ok .nilFunc w := by
  have hc : (Instr.checkKey es.isEmpty 10000 5 (.int .u8 k)).run Tryd.prog w = .ok () w := MapKept.run_checkKey (k := .int .u8 k) Tryd.underlying5 (by simp [MapKept.IsKey]) _ 9999
  simp [Instr.lookup, run_underlying Tryd.underlying143, MapKept.run_getObj_map hb, hc, MapKept.run_findKey Tryd.underlying5 hf, zero129, Result.andThen]
def fv (f rb : Nat) : Value := .func (.func f) #[.pointer (some ⟨rb, 0, none⟩)] #[]
theorem neq_func (w : World) (f rb : Nat) : (binOp .neq 129 (fv f rb) .nilFunc).run Tryd.prog w = .ok (.bool true) w := by kernel_rfl
theorem neq_nil (w : World) : (binOp .neq 129 .nilFunc .nilFunc).run Tryd.prog w = .ok (.bool false) w := by kernel_rfl
theorem ackF_len : ∀ (d : Nat) (p : Int) (l : List Int) (s : List S103) (r : List Int), ackF d p l = some (s, r) → s.length = d := by
  intro d
  induction d with
  | zero => intro p l s r h; injection h with h; injection h with h _; subst h; rfl
  | succ d ih =>
    intro p l s r h
    rw [ackF] at h
    obtain ⟨g, _, h⟩ := Option.bind_eq_some_iff.1 h
    obtain ⟨sp, _, h⟩ := Option.bind_eq_some_iff.1 h
    obtain ⟨⟨t, r'⟩, ht, h⟩ := Option.map_eq_some_iff.1 h
    injection h with h1 _
    subst h1
    simp [ih _ _ _ _ ht]
theorem ackR_len {l r : List Int} {s : List S103} (h : ackR l = some (s, r)) : s.length ≤ 33 := by
  unfold ackR at h
  obtain ⟨⟨a, l1⟩, _, h⟩ := Option.bind_eq_some_iff.1 h
  obtain ⟨⟨m, l2⟩, _, h⟩ := Option.bind_eq_some_iff.1 h
  simp only [] at h
  split at h
  · obtain ⟨sp, _, h⟩ := Option.bind_eq_some_iff.1 h
    obtain ⟨⟨t, r'⟩, ht, h⟩ := Option.map_eq_some_iff.1 h
    injection h with h1 _
    subst h1
    simp [ackF_len _ _ _ _ _ ht]
    omega
  · cases h
theorem body_len {k : Int} {l x : List Int} {f : S58} (h : body k l = some (f, x)) : f.f2.length ≤ 33 := by
  unfold body at h
  split at h
  · injection h with h; injection h with h _; subst h; simp
  split at h
  · injection h with h; injection h with h _; subst h; simp
  split at h
  · injection h with h; injection h with h _; subst h; simp
  split at h
  · obtain ⟨⟨s, r⟩, ha, h⟩ := Option.map_eq_some_iff.1 h
    injection h with h _; subst h
    exact ackR_len ha
  split at h
  · obtain ⟨a, _, h⟩ := Option.bind_eq_some_iff.1 h
    obtain ⟨n, _, h⟩ := Option.bind_eq_some_iff.1 h
    obtain ⟨d, _, h⟩ := Option.map_eq_some_iff.1 h
    injection h with h _; subst h; simp
  split at h
  · obtain ⟨d, _, h⟩ := Option.map_eq_some_iff.1 h
    injection h with h _; subst h; simp
  split at h
  · obtain ⟨a, _, h⟩ := Option.bind_eq_some_iff.1 h
    obtain ⟨d, _, h⟩ := Option.map_eq_some_iff.1 h
    injection h with h _; subst h; simp
  split at h
  · obtain ⟨d, _, h⟩ := Option.map_eq_some_iff.1 h
    injection h with h _; subst h; simp
  · cases h
end Go.Proofs.YtbcleckapamicaaDoor.Fd
