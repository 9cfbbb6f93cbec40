/- A part of the proof of the law FrameReads: Rf2, FrP2, FrP3, Rf3, Rt0. -/
import Derived.Test.YtbcleckapamicaaDoorZFrd12
import Derived.Test.YtbcleckapamicaaDoorZFrd10
import Derived.Test.YtbcleckapamicaaDoorZFrd06
namespace Go.Proofs.YtbcleckapamicaaDoor.Rf
open Go Go.RowKit Go.Proofs.YtbcleckapamicaaDoorW.PrintWords Go.Proofs.YtbcleckapamicaaDoorW.PrintLast Go.Proofs.YtbcleckapamicaaDoorW.PrintMore
open Go.Proofs.YtbcleckapamicaaDoor.QFr (S58 S103 k58 k103 S102 k102 k102_mkM)
open Go.Proofs.YtbcleckapamicaaDoor.FrP (cv)
open Go.Proofs.YtbcleckapamicaaDoor.Onl (Only)
open Go.Proofs.YtbcleckapamicaaDoor.Vn (vread vsize num)
open Go.Proofs.YtbcleckapamicaaDoor.Fd (rnum rbyt rtrm info5 upto num4 ackL ackR ackR_eq gapF spanF rnum_rng rnum_sub own_grow own_set own_only R_only)
set_option linter.unusedVariables false
set_option linter.unusedSimpArgs false
theorem info102 : (Tryd.prog.info? 102).map (fun i => (i.zero, i.size, i.bytes)) = some (some (.agg #[.int .i64 0, .int .i64 0]), 2, 16) := by kernel_rfl
theorem numS_some {S : Option (List Int)} {n : Int} {r : List Int} (h : numS S = (n, some r)) : ∃ l, S = some l ∧ rnum l = some (n, r) := by
  unfold numS at h
  cases S with
  | none => simp at h
  | some l =>
    rw [Option.bind_some] at h
    cases hr : rnum l with
    | none => rw [hr] at h; simp at h
    | some q =>
      obtain ⟨n', r'⟩ := q
      rw [hr] at h
      injection h with h1 h2
      injection h2 with h2
      subst h1 h2
      exact ⟨l, rfl, hr⟩
theorem numS_none {S : Option (List Int)} {n : Int} (h : numS S = (n, none)) : n = 0 ∧ S.bind rnum = none := by
  unfold numS at h
  cases hr : S.bind rnum with
  | none => rw [hr] at h; injection h with h _; exact ⟨h.symm, rfl⟩
  | some q => rw [hr] at h; obtain ⟨n', r'⟩ := q; injection h with _ h; cases h
theorem number_of {w0 w : World} {rb : Nat} {S S' : Option (List Int)} {n : Int} (h : Rs w0 w rb S) (e : numS S = (n, S')) :
    Calls Tryd.prog 83 #[.pointer (some ⟨rb, 0, none⟩)] w fun en w' => en = .returned (.int .i64 n) ∧ Rs w0 w' rb S' ∧ Only (fun k => k = rb) w w' := by
  have h1 := number_calls h
  rw [e] at h1
  exact h1
def ackQ (b : Bool) (tp : Int) (S : Option (List Int)) : Int × Option (List Int) := if b = true then (tp, S) else (wrap64 (wrap64 (tp - (numS S).1) - 2), (numS S).2)
def ackB (tp n : Int) (S : Option (List Int)) : Option (List Int) := if tp < 0 ∨ tp < n then none else S
def mkC (sp : List S102) (t : List S103 × List Int) : List S103 × List Int := (cv sp ++ t.1, t.2)
theorem spanF_eq {tp : Int} {l : List Int} {n : Int} {r : List Int} (h : rnum l = some (n, r)) : spanF tp l = if n ≤ tp then some (⟨tp - n, tp⟩, r) else none := by unfold spanF; rw [h]; rfl
theorem gapF_eq {tp : Int} {l : List Int} {n : Int} {r : List Int} (h : rnum l = some (n, r)) : gapF tp l = if n + 2 ≤ tp then some (tp - (n + 2), r) else none := by unfold gapF; rw [h]; rfl
theorem spanF_none {tp : Int} {l : List Int} (h : rnum l = none) : spanF tp l = none := by unfold spanF; rw [h]; rfl
theorem gapF_none {tp : Int} {l : List Int} (h : rnum l = none) : gapF tp l = none := by unfold gapF; rw [h]; rfl
theorem ack_round {b : Bool} {tp : Int} {x : List Int} {d : Nat} {sp : List S102} {res : Option (List S103 × List Int)} (hby : ∀ y ∈ x, 0 ≤ y ∧ y ≤ 255) (htp : 0 ≤ tp ∧ tp ≤ 4611686018427387903)
    (hres : (ackL (d + 1) b tp x).map (mkC sp) = res) {tq n : Int} {S1 S2 : Option (List Int)} (h1 : ackQ b tp (some x) = (tq, S1)) (h2 : numS S1 = (n, S2)) :
    (ackB tq n S2 = none → res = none) ∧ ∀ y, ackB tq n S2 = some y → (0 ≤ wrap64 (tq - n) ∧ wrap64 (tq - n) ≤ 4611686018427387903) ∧ (ackL d false (wrap64 (tq - n)) y).map (mkC (sp ++ [⟨wrap64 (tq - n), tq⟩])) = res := by
  have key : ∀ (tq : Int) (x1 : List Int) (P : Option (List S103 × List Int)), (∀ y ∈ x1, 0 ≤ y ∧ y ≤ 255) → tq ≤ 4611686018427387903 → numS (some x1) = (n, S2) →
      ((tq < 0 → P = none) ∧ (0 ≤ tq → P = (spanF tq x1).bind fun s => (ackL d false s.1.f0 s.2).map fun t => (s.1 :: t.1, t.2))) → P.map (mkC sp) = res →
      (ackB tq n S2 = none → res = none) ∧ ∀ y, ackB tq n S2 = some y → (0 ≤ wrap64 (tq - n) ∧ wrap64 (tq - n) ≤ 4611686018427387903) ∧ (ackL d false (wrap64 (tq - n)) y).map (mkC (sp ++ [⟨wrap64 (tq - n), tq⟩])) = res := by
    intro tq x1 P hb1 hq2 hn hP hr
    cases S2 with
    | none =>
      obtain ⟨_, h0⟩ := numS_none hn
      rw [Option.bind_some] at h0
      have hPn : P = none := by
        by_cases q : tq < 0
        · exact hP.1 q
        · rw [hP.2 (by omega), spanF_none h0]; rfl
      rw [hPn] at hr
      refine ⟨fun _ => hr.symm, fun y hy => ?_⟩
      unfold ackB at hy
      split at hy <;> cases hy
    | some y =>
      obtain ⟨l, e, h0⟩ := numS_some hn
      injection e with e
      subst e
      have hn0 := rnum_rng hb1 h0
      unfold ackB
      by_cases q : tq < 0 ∨ tq < n
      · rw [if_pos q]
        refine ⟨fun _ => ?_, fun y hy => by cases hy⟩
        have hPn : P = none := by
          by_cases q1 : tq < 0
          · exact hP.1 q1
          · rw [hP.2 (by omega), spanF_eq h0, if_neg (by omega)]; rfl
        rw [hPn] at hr
        exact hr.symm
      · rw [if_neg q]
        refine ⟨fun q => (by cases q), fun y' hy => ?_⟩
        injection hy with hy
        subst hy
        have e : wrap64 (tq - n) = tq - n := by unfold wrap64; omega
        rw [e]
        refine ⟨by omega, ?_⟩
        rw [← hr, hP.2 (by omega), spanF_eq h0, if_pos (by omega), Option.bind_some, Option.map_map]
        congr 1
        funext t
        simp [mkC, cv]
  cases b with
  | true =>
    unfold ackQ at h1
    rw [if_pos rfl] at h1
    injection h1 with e1 e2
    subst e1 e2
    refine key tp x _ hby htp.2 h2 ⟨fun q => by omega, fun _ => ?_⟩ hres
    rw [ackL, if_pos rfl, Option.bind_some]
  | false =>
    unfold ackQ at h1
    rw [if_neg (by decide)] at h1
    cases hg : rnum x with
    | none =>
      have e : numS (some x) = (0, none) := by unfold numS; rw [Option.bind_some, hg]
      rw [e] at h1
      injection h1 with e1 e2
      subst e2
      have e3 : numS none = (0, none) := rfl
      rw [e3] at h2
      injection h2 with _ h2
      subst h2
      rw [ackL, if_neg (by decide), gapF_none hg] at hres
      refine ⟨fun _ => hres.symm, fun y hy => ?_⟩
      unfold ackB at hy
      split at hy <;> cases hy
    | some q =>
      obtain ⟨g, x1⟩ := q
      have hg0 := rnum_rng hby hg
      have e : numS (some x) = (g, some x1) := by unfold numS; rw [Option.bind_some, hg]
      rw [e] at h1
      injection h1 with e1 e2
      subst e2
      have eq : wrap64 (wrap64 (tp - g) - 2) = tp - (g + 2) := by unfold wrap64; omega
      rw [eq] at e1
      subst e1
      refine key _ x1 _ (fun y hy => hby y (rnum_sub hg y hy)) (by omega) h2 ⟨fun q => ?_, fun q => ?_⟩ hres
      · rw [ackL, if_neg (by decide), gapF_eq hg, if_neg (by omega)]; rfl
      · rw [ackL, if_neg (by decide), gapF_eq hg, if_pos (by omega), Option.bind_some]
def AckP (w0 w : World) (rb : Nat) (res : Option (List S103 × List Int)) (en : Ending) (w' : World) : Prop :=
  ∃ v L S', en = .returned v ∧ Kd.R k102 102 w' w.heap.size (fun _ => True) v L ∧ Rs w0 w' rb S' ∧ Only (fun k => k = rb) w w' ∧ L.length ≤ 33 ∧ ((res = none ∧ S' = none) ∨ ∃ r, res = some (cv L, r) ∧ S' = some r)
set_option maxHeartbeats 4000000 in
set_option maxRecDepth 100000 in
theorem ack_calls {w0 w : World} {rb : Nat} {S0 : Option (List Int)} (h : Rs w0 w rb S0) :
    Calls Tryd.prog 82 #[.pointer (some ⟨rb, 0, none⟩)] w (AckP w0 w rb (S0.bind ackR)) := by
  have HX0 := Aside0.mk h
  have HL := Aside0.mk (show rb < w.heap.size ∧ w0.heap.size ≤ rb from ⟨h.lt, h.lo⟩)
  have hby : ∀ x, S0 = some x → ∀ y ∈ x, 0 ≤ y ∧ y ≤ 255 := fun x e => by subst e; exact h.by_.1
  clear h
  obtain ⟨⟨t0, S1⟩, e1⟩ : ∃ q, numS S0 = q := ⟨_, rfl⟩
  obtain ⟨⟨m, S2⟩, e2⟩ : ∃ q, numS S1 = q := ⟨_, rfl⟩
  generalize hres : S0.bind ackR = res
  have E1 := Aside0.mk e1
  have E2 := Aside0.mk e2
  cases S2 with
  | none =>
    obtain rfl : res = none := by
      rw [← hres]
      cases S0 with
      | none => rfl
      | some x0 =>
        rw [Option.bind_some, ackR_eq]
        have h2 := (numS_none e2).2
        cases S1 with
        | none => have h1 := (numS_none e1).2; rw [Option.bind_some] at h1; rw [h1]; rfl
        | some x1 =>
          obtain ⟨l, q, h1⟩ := numS_some e1
          injection q with q
          subst q
          rw [h1, Option.bind_some]
          rw [Option.bind_some] at h2
          rw [h2]; rfl
    clear hres e1 e2 hby
    go_enter Tryd.func82, Tryd.ntmps82
    go_wp2_with (first | (go_at_call 83; refine (number_of HX0.out E1.out).mono ?_; rintro e1 w1 ⟨rfl, hx, ho⟩; have HX1 := Aside0.mk hx; have HO1 := Aside0.mk ho; clear hx ho) | (go_at_call 83; refine (number_of HX1.out E2.out).mono ?_; rintro e1 w2 ⟨rfl, hx, ho⟩; have HX2 := Aside0.mk hx; have HO2 := Aside0.mk (HO1.out.trans ho); obtain ⟨A2, c2, l2, hr⟩ := HX2.out; have c1_ := hr.c1; have f1_ := hr.f1; have HR := Aside0.mk hr; clear hr; clear hx ho))
    go_ret
    exact ⟨_, [], none, rfl, Kd.R_nil _ _ _ _ _, ⟨_, _, _, HR.out.mark true⟩, HO2.out.setCell (ad := ⟨rb, 1, none⟩) rfl _, by simp, .inl ⟨rfl, rfl⟩⟩
  | some x2 =>
    obtain ⟨x1, rfl, h2⟩ := numS_some e2
    obtain ⟨x0, rfl, h1⟩ := numS_some e1
    have hb0 := hby _ rfl
    have hb1 : ∀ y ∈ x1, 0 ≤ y ∧ y ≤ 255 := fun y hy => hb0 y (rnum_sub h1 y hy)
    have hr1 := rnum_rng hb0 h1
    have hr2 := rnum_rng hb1 h2
    rw [Option.bind_some, ackR_eq, h1, Option.bind_some, h2, Option.bind_some] at hres
    simp only [] at hres
    clear e1 e2 hby h1 h2 hb0 hb1
    by_cases hm : m < 32
    rotate_left
    · have d0 : decide (32 ≤ m) = true := decide_eq_true (by omega)
      rw [if_neg hm] at hres
      subst hres
      clear hm hr1 hr2
      go_enter Tryd.func82, Tryd.ntmps82
      go_wp2_with (first | (go_at_call 83; refine (number_of HX0.out E1.out).mono ?_; rintro e1 w1 ⟨rfl, hx, ho⟩; have HX1 := Aside0.mk hx; have HO1 := Aside0.mk ho; clear hx ho) | (go_at_call 83; refine (number_of HX1.out E2.out).mono ?_; rintro e1 w2 ⟨rfl, hx, ho⟩; have HX2 := Aside0.mk hx; have HO2 := Aside0.mk (HO1.out.trans ho); obtain ⟨A2, c2, hr⟩ := HX2.out; have c1_ := hr.c1; have f1_ := hr.f1; have HR := Aside0.mk hr; clear hr; clear hx ho))
      go_ret
      exact ⟨_, [], none, rfl, Kd.R_nil _ _ _ _ _, ⟨_, _, _, HR.out.mark true⟩, HO2.out.setCell (ad := ⟨rb, 1, none⟩) rfl _, by simp, .inl ⟨rfl, rfl⟩⟩
    rw [if_pos hm] at hres
    obtain ⟨M, rfl⟩ := Int.eq_ofNat_of_zero_le hr2.1
    have d0 : decide (32 ≤ (M : Int)) = false := decide_eq_false (by omega)
    have d1 : decide (32 ≤ M) = false := decide_eq_false (by omega)
    obtain ⟨K, hK⟩ : ∃ K, M + 1 = K := ⟨_, rfl⟩
    have HK := Aside0.mk hK
    have HM := Aside0.mk (show M < 32 by omega)
    rw [Int.toNat_natCast, hK] at hres
    have HRES := Aside0.mk (show (ackL K true t0 x2).map (mkC []) = res by rw [← hres]; cases ackL K true t0 x2 <;> rfl)
    have HR1 := Aside0.mk hr1
    clear hm hr1 hr2 hres hK
    go_enter Tryd.func82, Tryd.ntmps82
    go_wp2_with (first | (go_at_call 83; refine (number_of HX0.out E1.out).mono ?_; rintro e1 w1 ⟨rfl, hx, ho⟩; have HX1 := Aside0.mk hx; have HO1 := Aside0.mk ho; clear hx ho) | (go_at_call 83; refine (number_of HX1.out E2.out).mono ?_; rintro e1 w2 ⟨rfl, hx, ho⟩; have HX2 := Aside0.mk hx; have HO2 := Aside0.mk (HO1.out.trans ho); obtain ⟨A2, c2, hr⟩ := HX2.out; have c1_ := hr.c1; have f1_ := hr.f1; clear hr; clear hx ho))
    have HZ2 := Aside0.mk HO2.out.size
    clear c1_ f1_ d0 d1
    obtain ⟨b0, hb0⟩ : ∃ b0, w.heap.size = b0 := ⟨_, rfl⟩
    have HB0 := Aside0.mk hb0
    clear hb0
    go_loopg [3, 5, 6, 7] (K + 1) (fun gg v3 v5 v6 v7 wr => ∃ (k : Nat) (tp : Int) (S : Option (List Int)) (sp : List S102), k ≤ K ∧ K - k < gg ∧ v3 = .int .i64 tp ∧ v6 = .int .i64 k ∧ Aside0 (sp.length = k) ∧ Aside0 (S = none → res = none) ∧ Aside0 (∀ x, S = some x → (0 ≤ tp ∧ tp ≤ 4611686018427387903) ∧ (ackL (K - k) (decide (k = 0)) tp x).map (mkC sp) = res) ∧ Aside0 (Rs w0 wr rb S) ∧ Aside0 (Kd.R k102 102 wr w.heap.size (fun _ => True) v5 sp) ∧ Aside0 (Only (fun k => k = rb) w wr))
    case atStart => exact ⟨0, t0, some x2, [], by omega, by omega, rfl, rfl, ⟨rfl⟩, ⟨fun q => by cases q⟩, ⟨fun x e => by injection e with e; subst e; exact ⟨HR1.out, HRES.out⟩⟩, HX2, ⟨Kd.R_nil _ _ _ _ _⟩, HO2⟩
    case round =>
      obtain ⟨k, tp, S, sp, hk, hg, rfl, rfl, HSP, HRN, HRS, HX, R, O⟩ := hrel
      obtain ⟨Av, cv_, ev⟩ := Kd.R_slice R.out
      obtain ⟨nv, hnv⟩ : ∃ nv, sp.length = nv := ⟨_, rfl⟩
      rw [hnv] at ev
      clear hnv
      subst ev
      have HG := Aside0.mk hg
      clear HX2 HO2 HX1 HO1 HRES hg HZ2
      have hM := HM.out
      have hK := HK.out
      by_cases hend : k = K
      · subst hend
        have c0 : decide ((k : Int) ≤ (M : Int)) = false := decide_eq_false (by omega)
        have c1 : decide (k ≤ M) = false := decide_eq_false (by omega)
        clear hk hM hK
        go_wp2
        go_ret
        have hlen : sp.length ≤ 33 := by have h1 := HSP.out; have h2 := HM.out; have h3 := HK.out; omega
        cases S with
        | none => exact ⟨_, sp, none, rfl, R.out, HX.out, O.out, hlen, .inl ⟨HRN.out (by simp), rfl⟩⟩
        | some x =>
          have h1 := (HRS.out x rfl).2
          rw [Nat.sub_self, ackL, Option.map_some] at h1
          exact ⟨_, sp, some x, rfl, R.out, HX.out, O.out, hlen, .inr ⟨x, by rw [← h1]; simp [mkC], rfl⟩⟩
      have c0 : decide ((k : Int) ≤ (M : Int)) = true := decide_eq_true (by omega)
      have c1 : decide (k ≤ M) = true := decide_eq_true (by omega)
      have e19 : wrap64 ((k : Int) + 1) = ((k + 1 : Nat) : Int) := by unfold wrap64; omega
      obtain ⟨d, hd⟩ : ∃ d, K - k = d + 1 := ⟨K - k - 1, by omega⟩
      have HDD := Aside0.mk (show d = K - (k + 1) by omega)
      have HKL := Aside0.mk (show k < K by omega)
      clear hk hend hM hK
      cases S with
      | none =>
        obtain ⟨A2, c2, l2, hr⟩ := HX.out
        have c1_ := hr.c1
        clear hr
        go_wp2
        go_ret
        exact ⟨_, sp, none, rfl, R.out, HX.out, O.out, by have h1 := HSP.out; have h2 := HM.out; have h3 := HK.out; have h4 := HKL.out; omega, .inl ⟨HRN.out (by simp), rfl⟩⟩
      | some x =>
        obtain ⟨htp, hres⟩ := HRS.out x rfl
        rw [hd] at hres
        obtain ⟨A2, c2, hr⟩ := HX.out
        have hby := hr.by_
        have c1_ := hr.c1
        clear hr hd HRS HRN
        obtain ⟨⟨tq, S3⟩, e3⟩ : ∃ q, ackQ (decide (k = 0)) tp (some x) = q := ⟨_, rfl⟩
        obtain ⟨⟨n, S4⟩, e4⟩ : ∃ q, numS S3 = q := ⟨_, rfl⟩
        have KEY := Aside0.mk (ack_round hby htp hres e3 e4)
        have E4 := Aside0.mk e4
        clear htp hres hby
        by_cases hk0 : k = 0
        · subst hk0
          have k0 : decide ((0 : Int) < ((0 : Nat) : Int)) = false := rfl
          rw [decide_eq_true rfl] at e3
          unfold ackQ at e3
          rw [if_pos rfl] at e3
          injection e3 with h1 h2
          subst h1 h2
          have HX9 := HX
          have O9 := O
          have R9 := R
          clear HX O R e4
          cases S4 with
          | none =>
            have ebad : ackB tp n none = none := by unfold ackB; split <;> rfl
            have EB := Aside0.mk ebad
            clear ebad
            go_upto_region 13 with (go_at_call 83; refine (number_of HX9.out E4.out).mono ?_; rintro e1 w5 ⟨rfl, hx, ho⟩; have HX5 := Aside0.mk hx; have HO5 := Aside0.mk ho; obtain ⟨A5, c5, l5, hr5, _⟩ := HX5.out.any; have c15 := hr5.c1; have f15 := hr5.f1; have HR5 := Aside0.mk hr5; clear hx ho hr5)
            have X6 : Rs w0 (w5.setCell ⟨rb, 1, none⟩ (.bool true)) rb (ackB tp n none) := by
              rw [EB.out]
              exact ⟨_, _, _, HR5.out.mark true⟩
            have hL := HL.out
            have O56 := (HO5.out).setCell (ad := ⟨rb, 1, none⟩) rfl (.bool true)
            have O6 := O9.out.trans O56
            have R6 : Kd.R k102 102 (w5.setCell ⟨rb, 1, none⟩ (.bool true)) w.heap.size (fun _ => True) (.slice Av nv cv_) sp := R_only R9.out O56 (fun k q => by omega)
            have HX6 := Aside0.mk X6
            have HO6 := Aside0.mk O6
            have HR6 := Aside0.mk R6
            clear X6 O56 O6 R6 hL c15 f15
            generalize w5.setCell ⟨rb, 1, none⟩ (.bool true) = w6 at *
            go_wp2_with ((with_reducible refine gate_builtin (b := .append) (xs := #[.tmp 60, .tmp 66]) rfl ?_); at_builtin; refine Kd.R_append k102 (w0 := w6) w.heap.size rfl (.tmp 60) (.tmp 66) 60 102 (.agg #[.int .i64 0, .int .i64 0]) 16 rfl Tryd.underlying60 info102 rfl (by decide) (by omega) (.slice Av nv cv_) sp (⟨wrap64 (tp - n), tp⟩ : S102) [.int .i64 (wrap64 (tp - n)), .int .i64 tp] (fun _ => True) (fun _ => False) rfl rfl (k102_mkM _ _ _ _) (fun _ h => h.elim) ?aF ?aO ?aB ?aS ?aL ?_; (case aF => exact fun _ _ => trivial); (case aO => exact HR6.out); (case aB => have h1 := HO6.out.size; exact Below.mono (Below.refl _ _) h1); (case aS => exact HO6.out.size); (case aL => have h1 := HSP.out; have h2 := HKL.out; have h3 := HM.out; have h4 := HK.out; omega); intro v1 w7 hR7 hb7 hg7 hat7; obtain ⟨A9, c9, e9⟩ := Kd.R_slice hR7; obtain ⟨n9, hn9⟩ : ∃ n9, (sp ++ [(⟨wrap64 (tp - n), tp⟩ : S102)]).length = n9 := ⟨_, rfl⟩; rw [hn9] at e9; clear hn9; subst e9; have ho7 : Only (fun k => w.heap.size ≤ k) w6 w7 := (Only.refl _ w6).grown hg7 (fun k e => .inl (Kd.R_base HR6.out k e)); have hL := HL.out; have R7 := Aside0.mk hR7; have X7 := Aside0.mk (HX6.out.only ho7 (by omega) (fun k q => by omega)); have O7 := Aside0.mk (own_grow HO6.out ho7 (Nat.le_refl _)); clear hR7 hb7 hg7 hat7 ho7 hL)
            go_roundg (d + 1)
            case measure => have h1 := HDD.out; have h2 := HG.out; have h3 := HKL.out; omega
            case rel =>
              refine ⟨0 + 1, wrap64 (tp - n), ackB tp n none, sp ++ [⟨wrap64 (tp - n), tp⟩], by have h3 := HKL.out; omega, by have h1 := HDD.out; omega, rfl, by first | go_num | rfl, ⟨by rw [List.length_append, HSP.out]; rfl⟩, ⟨KEY.out.1⟩, ⟨fun y' hy => ?_⟩, X7, R7, O7⟩
              have h1 := KEY.out.2 y' hy
              rw [← HDD.out, decide_eq_false (show ¬ 0 + 1 = 0 by omega)]
              exact h1
          | some y =>
            by_cases q1 : tp < 0
            · have f0 : decide (tp < 0) = true := decide_eq_true q1
              have ebad : ackB tp n (some y) = none := by unfold ackB; rw [if_pos (.inl q1)]
              clear q1
              have EB := Aside0.mk ebad
              clear ebad
              go_upto_region 13 with (go_at_call 83; refine (number_of HX9.out E4.out).mono ?_; rintro e1 w5 ⟨rfl, hx, ho⟩; have HX5 := Aside0.mk hx; have HO5 := Aside0.mk ho; obtain ⟨A5, c5, l5, hr5, _⟩ := HX5.out.any; have c15 := hr5.c1; have f15 := hr5.f1; have HR5 := Aside0.mk hr5; clear hx ho hr5)
              have X6 : Rs w0 (w5.setCell ⟨rb, 1, none⟩ (.bool true)) rb (ackB tp n (some y)) := by
                rw [EB.out]
                exact ⟨_, _, _, HR5.out.mark true⟩
              have hL := HL.out
              have O56 := (HO5.out).setCell (ad := ⟨rb, 1, none⟩) rfl (.bool true)
              have O6 := O9.out.trans O56
              have R6 : Kd.R k102 102 (w5.setCell ⟨rb, 1, none⟩ (.bool true)) w.heap.size (fun _ => True) (.slice Av nv cv_) sp := R_only R9.out O56 (fun k q => by omega)
              have HX6 := Aside0.mk X6
              have HO6 := Aside0.mk O6
              have HR6 := Aside0.mk R6
              clear X6 O56 O6 R6 hL c15 f15
              generalize w5.setCell ⟨rb, 1, none⟩ (.bool true) = w6 at *
              go_wp2_with ((with_reducible refine gate_builtin (b := .append) (xs := #[.tmp 60, .tmp 66]) rfl ?_); at_builtin; refine Kd.R_append k102 (w0 := w6) w.heap.size rfl (.tmp 60) (.tmp 66) 60 102 (.agg #[.int .i64 0, .int .i64 0]) 16 rfl Tryd.underlying60 info102 rfl (by decide) (by omega) (.slice Av nv cv_) sp (⟨wrap64 (tp - n), tp⟩ : S102) [.int .i64 (wrap64 (tp - n)), .int .i64 tp] (fun _ => True) (fun _ => False) rfl rfl (k102_mkM _ _ _ _) (fun _ h => h.elim) ?aF ?aO ?aB ?aS ?aL ?_; (case aF => exact fun _ _ => trivial); (case aO => exact HR6.out); (case aB => have h1 := HO6.out.size; exact Below.mono (Below.refl _ _) h1); (case aS => exact HO6.out.size); (case aL => have h1 := HSP.out; have h2 := HKL.out; have h3 := HM.out; have h4 := HK.out; omega); intro v1 w7 hR7 hb7 hg7 hat7; obtain ⟨A9, c9, e9⟩ := Kd.R_slice hR7; obtain ⟨n9, hn9⟩ : ∃ n9, (sp ++ [(⟨wrap64 (tp - n), tp⟩ : S102)]).length = n9 := ⟨_, rfl⟩; rw [hn9] at e9; clear hn9; subst e9; have ho7 : Only (fun k => w.heap.size ≤ k) w6 w7 := (Only.refl _ w6).grown hg7 (fun k e => .inl (Kd.R_base HR6.out k e)); have hL := HL.out; have R7 := Aside0.mk hR7; have X7 := Aside0.mk (HX6.out.only ho7 (by omega) (fun k q => by omega)); have O7 := Aside0.mk (own_grow HO6.out ho7 (Nat.le_refl _)); clear hR7 hb7 hg7 hat7 ho7 hL)
              go_roundg (d + 1)
              case measure => have h1 := HDD.out; have h2 := HG.out; have h3 := HKL.out; omega
              case rel =>
                refine ⟨0 + 1, wrap64 (tp - n), ackB tp n (some y), sp ++ [⟨wrap64 (tp - n), tp⟩], by have h3 := HKL.out; omega, by have h1 := HDD.out; omega, rfl, by first | go_num | rfl, ⟨by rw [List.length_append, HSP.out]; rfl⟩, ⟨KEY.out.1⟩, ⟨fun y' hy => ?_⟩, X7, R7, O7⟩
                have h1 := KEY.out.2 y' hy
                rw [← HDD.out, decide_eq_false (show ¬ 0 + 1 = 0 by omega)]
                exact h1
            have f0 : decide (tp < 0) = false := decide_eq_false q1
            by_cases q2 : tp < n
            · have f1 : decide (tp < n) = true := decide_eq_true q2
              have ebad : ackB tp n (some y) = none := by unfold ackB; rw [if_pos (.inr q2)]
              clear q1 q2
              have EB := Aside0.mk ebad
              clear ebad
              go_upto_region 13 with (go_at_call 83; refine (number_of HX9.out E4.out).mono ?_; rintro e1 w5 ⟨rfl, hx, ho⟩; have HX5 := Aside0.mk hx; have HO5 := Aside0.mk ho; obtain ⟨A5, c5, l5, hr5, _⟩ := HX5.out.any; have c15 := hr5.c1; have f15 := hr5.f1; have HR5 := Aside0.mk hr5; clear hx ho hr5)
              have X6 : Rs w0 (w5.setCell ⟨rb, 1, none⟩ (.bool true)) rb (ackB tp n (some y)) := by
                rw [EB.out]
                exact ⟨_, _, _, HR5.out.mark true⟩
              have hL := HL.out
              have O56 := (HO5.out).setCell (ad := ⟨rb, 1, none⟩) rfl (.bool true)
              have O6 := O9.out.trans O56
              have R6 : Kd.R k102 102 (w5.setCell ⟨rb, 1, none⟩ (.bool true)) w.heap.size (fun _ => True) (.slice Av nv cv_) sp := R_only R9.out O56 (fun k q => by omega)
              have HX6 := Aside0.mk X6
              have HO6 := Aside0.mk O6
              have HR6 := Aside0.mk R6
              clear X6 O56 O6 R6 hL c15 f15
              generalize w5.setCell ⟨rb, 1, none⟩ (.bool true) = w6 at *
              go_wp2_with ((with_reducible refine gate_builtin (b := .append) (xs := #[.tmp 60, .tmp 66]) rfl ?_); at_builtin; refine Kd.R_append k102 (w0 := w6) w.heap.size rfl (.tmp 60) (.tmp 66) 60 102 (.agg #[.int .i64 0, .int .i64 0]) 16 rfl Tryd.underlying60 info102 rfl (by decide) (by omega) (.slice Av nv cv_) sp (⟨wrap64 (tp - n), tp⟩ : S102) [.int .i64 (wrap64 (tp - n)), .int .i64 tp] (fun _ => True) (fun _ => False) rfl rfl (k102_mkM _ _ _ _) (fun _ h => h.elim) ?aF ?aO ?aB ?aS ?aL ?_; (case aF => exact fun _ _ => trivial); (case aO => exact HR6.out); (case aB => have h1 := HO6.out.size; exact Below.mono (Below.refl _ _) h1); (case aS => exact HO6.out.size); (case aL => have h1 := HSP.out; have h2 := HKL.out; have h3 := HM.out; have h4 := HK.out; omega); intro v1 w7 hR7 hb7 hg7 hat7; obtain ⟨A9, c9, e9⟩ := Kd.R_slice hR7; obtain ⟨n9, hn9⟩ : ∃ n9, (sp ++ [(⟨wrap64 (tp - n), tp⟩ : S102)]).length = n9 := ⟨_, rfl⟩; rw [hn9] at e9; clear hn9; subst e9; have ho7 : Only (fun k => w.heap.size ≤ k) w6 w7 := (Only.refl _ w6).grown hg7 (fun k e => .inl (Kd.R_base HR6.out k e)); have hL := HL.out; have R7 := Aside0.mk hR7; have X7 := Aside0.mk (HX6.out.only ho7 (by omega) (fun k q => by omega)); have O7 := Aside0.mk (own_grow HO6.out ho7 (Nat.le_refl _)); clear hR7 hb7 hg7 hat7 ho7 hL)
              go_roundg (d + 1)
              case measure => have h1 := HDD.out; have h2 := HG.out; have h3 := HKL.out; omega
              case rel =>
                refine ⟨0 + 1, wrap64 (tp - n), ackB tp n (some y), sp ++ [⟨wrap64 (tp - n), tp⟩], by have h3 := HKL.out; omega, by have h1 := HDD.out; omega, rfl, by first | go_num | rfl, ⟨by rw [List.length_append, HSP.out]; rfl⟩, ⟨KEY.out.1⟩, ⟨fun y' hy => ?_⟩, X7, R7, O7⟩
                have h1 := KEY.out.2 y' hy
                rw [← HDD.out, decide_eq_false (show ¬ 0 + 1 = 0 by omega)]
                exact h1
            have f1 : decide (tp < n) = false := decide_eq_false q2
            have ebad : ackB tp n (some y) = some y := by unfold ackB; rw [if_neg (by omega)]
            clear q1 q2
            have EB := Aside0.mk ebad
            clear ebad
            go_upto_region 13 with (go_at_call 83; refine (number_of HX9.out E4.out).mono ?_; rintro e1 w5 ⟨rfl, hx, ho⟩; have HX5 := Aside0.mk hx; have HO5 := Aside0.mk ho; obtain ⟨A5, c5, l5, hr5, _⟩ := HX5.out.any; have c15 := hr5.c1; have f15 := hr5.f1; have HR5 := Aside0.mk hr5; clear hx ho hr5)
            have X6 : Rs w0 (w5.setCell ⟨rb, 1, none⟩ (.bool false)) rb (ackB tp n (some y)) := by
              rw [EB.out]
              obtain ⟨A6, c6, hr6⟩ := HX5.out.some_
              exact ⟨_, _, hr6.mark false⟩
            have hL := HL.out
            have O56 := (HO5.out).setCell (ad := ⟨rb, 1, none⟩) rfl (.bool false)
            have O6 := O9.out.trans O56
            have R6 : Kd.R k102 102 (w5.setCell ⟨rb, 1, none⟩ (.bool false)) w.heap.size (fun _ => True) (.slice Av nv cv_) sp := R_only R9.out O56 (fun k q => by omega)
            have HX6 := Aside0.mk X6
            have HO6 := Aside0.mk O6
            have HR6 := Aside0.mk R6
            clear X6 O56 O6 R6 hL c15 f15
            generalize w5.setCell ⟨rb, 1, none⟩ (.bool false) = w6 at *
            go_wp2_with ((with_reducible refine gate_builtin (b := .append) (xs := #[.tmp 60, .tmp 66]) rfl ?_); at_builtin; refine Kd.R_append k102 (w0 := w6) w.heap.size rfl (.tmp 60) (.tmp 66) 60 102 (.agg #[.int .i64 0, .int .i64 0]) 16 rfl Tryd.underlying60 info102 rfl (by decide) (by omega) (.slice Av nv cv_) sp (⟨wrap64 (tp - n), tp⟩ : S102) [.int .i64 (wrap64 (tp - n)), .int .i64 tp] (fun _ => True) (fun _ => False) rfl rfl (k102_mkM _ _ _ _) (fun _ h => h.elim) ?aF ?aO ?aB ?aS ?aL ?_; (case aF => exact fun _ _ => trivial); (case aO => exact HR6.out); (case aB => have h1 := HO6.out.size; exact Below.mono (Below.refl _ _) h1); (case aS => exact HO6.out.size); (case aL => have h1 := HSP.out; have h2 := HKL.out; have h3 := HM.out; have h4 := HK.out; omega); intro v1 w7 hR7 hb7 hg7 hat7; obtain ⟨A9, c9, e9⟩ := Kd.R_slice hR7; obtain ⟨n9, hn9⟩ : ∃ n9, (sp ++ [(⟨wrap64 (tp - n), tp⟩ : S102)]).length = n9 := ⟨_, rfl⟩; rw [hn9] at e9; clear hn9; subst e9; have ho7 : Only (fun k => w.heap.size ≤ k) w6 w7 := (Only.refl _ w6).grown hg7 (fun k e => .inl (Kd.R_base HR6.out k e)); have hL := HL.out; have R7 := Aside0.mk hR7; have X7 := Aside0.mk (HX6.out.only ho7 (by omega) (fun k q => by omega)); have O7 := Aside0.mk (own_grow HO6.out ho7 (Nat.le_refl _)); clear hR7 hb7 hg7 hat7 ho7 hL)
            go_roundg (d + 1)
            case measure => have h1 := HDD.out; have h2 := HG.out; have h3 := HKL.out; omega
            case rel =>
              refine ⟨0 + 1, wrap64 (tp - n), ackB tp n (some y), sp ++ [⟨wrap64 (tp - n), tp⟩], by have h3 := HKL.out; omega, by have h1 := HDD.out; omega, rfl, by first | go_num | rfl, ⟨by rw [List.length_append, HSP.out]; rfl⟩, ⟨KEY.out.1⟩, ⟨fun y' hy => ?_⟩, X7, R7, O7⟩
              have h1 := KEY.out.2 y' hy
              rw [← HDD.out, decide_eq_false (show ¬ 0 + 1 = 0 by omega)]
              exact h1
        have k0 : decide ((0 : Int) < (k : Int)) = true := decide_eq_true (by omega)
        have k1 : decide (0 < k) = true := decide_eq_true (by omega)
        rw [decide_eq_false hk0] at e3
        unfold ackQ at e3
        rw [if_neg (by decide)] at e3
        obtain ⟨⟨g, S5⟩, e5⟩ : ∃ q, numS (some x) = q := ⟨_, rfl⟩
        rw [e5] at e3
        injection e3 with h1 h2
        subst h2
        have E5 := Aside0.mk e5
        have HK0 := Aside0.mk hk0
        have HTQ := h1
        clear hk0 e4 e5 h1
        go_upto_region 11 with (go_at_call 83; refine (number_of HX.out E5.out).mono ?_; rintro e1 w9 ⟨rfl, hx, ho⟩; have hL := HL.out; have HX9 := Aside0.mk hx; have R9 := Aside0.mk (R_only R.out ho (fun k q => by omega)); have O9 := Aside0.mk (O.out.trans ho); clear hx ho hL)
        clear HX O R c1_
        simp only [HTQ]
        clear HTQ
        cases S4 with
        | none =>
          have ebad : ackB tq n none = none := by unfold ackB; split <;> rfl
          have EB := Aside0.mk ebad
          clear ebad
          go_upto_region 13 with (go_at_call 83; refine (number_of HX9.out E4.out).mono ?_; rintro e1 w5 ⟨rfl, hx, ho⟩; have HX5 := Aside0.mk hx; have HO5 := Aside0.mk ho; obtain ⟨A5, c5, l5, hr5, _⟩ := HX5.out.any; have c15 := hr5.c1; have f15 := hr5.f1; have HR5 := Aside0.mk hr5; clear hx ho hr5)
          have X6 : Rs w0 (w5.setCell ⟨rb, 1, none⟩ (.bool true)) rb (ackB tq n none) := by
            rw [EB.out]
            exact ⟨_, _, _, HR5.out.mark true⟩
          have hL := HL.out
          have O56 := (HO5.out).setCell (ad := ⟨rb, 1, none⟩) rfl (.bool true)
          have O6 := O9.out.trans O56
          have R6 : Kd.R k102 102 (w5.setCell ⟨rb, 1, none⟩ (.bool true)) w.heap.size (fun _ => True) (.slice Av nv cv_) sp := R_only R9.out O56 (fun k q => by omega)
          have HX6 := Aside0.mk X6
          have HO6 := Aside0.mk O6
          have HR6 := Aside0.mk R6
          clear X6 O56 O6 R6 hL c15 f15
          generalize w5.setCell ⟨rb, 1, none⟩ (.bool true) = w6 at *
          go_wp2_with ((with_reducible refine gate_builtin (b := .append) (xs := #[.tmp 60, .tmp 66]) rfl ?_); at_builtin; refine Kd.R_append k102 (w0 := w6) w.heap.size rfl (.tmp 60) (.tmp 66) 60 102 (.agg #[.int .i64 0, .int .i64 0]) 16 rfl Tryd.underlying60 info102 rfl (by decide) (by omega) (.slice Av nv cv_) sp (⟨wrap64 (tq - n), tq⟩ : S102) [.int .i64 (wrap64 (tq - n)), .int .i64 tq] (fun _ => True) (fun _ => False) rfl rfl (k102_mkM _ _ _ _) (fun _ h => h.elim) ?aF ?aO ?aB ?aS ?aL ?_; (case aF => exact fun _ _ => trivial); (case aO => exact HR6.out); (case aB => have h1 := HO6.out.size; exact Below.mono (Below.refl _ _) h1); (case aS => exact HO6.out.size); (case aL => have h1 := HSP.out; have h2 := HKL.out; have h3 := HM.out; have h4 := HK.out; omega); intro v1 w7 hR7 hb7 hg7 hat7; obtain ⟨A9, c9, e9⟩ := Kd.R_slice hR7; obtain ⟨n9, hn9⟩ : ∃ n9, (sp ++ [(⟨wrap64 (tq - n), tq⟩ : S102)]).length = n9 := ⟨_, rfl⟩; rw [hn9] at e9; clear hn9; subst e9; have ho7 : Only (fun k => w.heap.size ≤ k) w6 w7 := (Only.refl _ w6).grown hg7 (fun k e => .inl (Kd.R_base HR6.out k e)); have hL := HL.out; have R7 := Aside0.mk hR7; have X7 := Aside0.mk (HX6.out.only ho7 (by omega) (fun k q => by omega)); have O7 := Aside0.mk (own_grow HO6.out ho7 (Nat.le_refl _)); clear hR7 hb7 hg7 hat7 ho7 hL)
          go_roundg (d + 1)
          case measure => have h1 := HDD.out; have h2 := HG.out; have h3 := HKL.out; omega
          case rel =>
            refine ⟨k + 1, wrap64 (tq - n), ackB tq n none, sp ++ [⟨wrap64 (tq - n), tq⟩], by have h3 := HKL.out; omega, by have h1 := HDD.out; omega, rfl, by first | go_num | rfl, ⟨by rw [List.length_append, HSP.out]; rfl⟩, ⟨KEY.out.1⟩, ⟨fun y' hy => ?_⟩, X7, R7, O7⟩
            have h1 := KEY.out.2 y' hy
            rw [← HDD.out, decide_eq_false (show ¬ k + 1 = 0 by omega)]
            exact h1
        | some y =>
          by_cases q1 : tq < 0
          · have f0 : decide (tq < 0) = true := decide_eq_true q1
            have ebad : ackB tq n (some y) = none := by unfold ackB; rw [if_pos (.inl q1)]
            clear q1
            have EB := Aside0.mk ebad
            clear ebad
            go_upto_region 13 with (go_at_call 83; refine (number_of HX9.out E4.out).mono ?_; rintro e1 w5 ⟨rfl, hx, ho⟩; have HX5 := Aside0.mk hx; have HO5 := Aside0.mk ho; obtain ⟨A5, c5, l5, hr5, _⟩ := HX5.out.any; have c15 := hr5.c1; have f15 := hr5.f1; have HR5 := Aside0.mk hr5; clear hx ho hr5)
            have X6 : Rs w0 (w5.setCell ⟨rb, 1, none⟩ (.bool true)) rb (ackB tq n (some y)) := by
              rw [EB.out]
              exact ⟨_, _, _, HR5.out.mark true⟩
            have hL := HL.out
            have O56 := (HO5.out).setCell (ad := ⟨rb, 1, none⟩) rfl (.bool true)
            have O6 := O9.out.trans O56
            have R6 : Kd.R k102 102 (w5.setCell ⟨rb, 1, none⟩ (.bool true)) w.heap.size (fun _ => True) (.slice Av nv cv_) sp := R_only R9.out O56 (fun k q => by omega)
            have HX6 := Aside0.mk X6
            have HO6 := Aside0.mk O6
            have HR6 := Aside0.mk R6
            clear X6 O56 O6 R6 hL c15 f15
            generalize w5.setCell ⟨rb, 1, none⟩ (.bool true) = w6 at *
            go_wp2_with ((with_reducible refine gate_builtin (b := .append) (xs := #[.tmp 60, .tmp 66]) rfl ?_); at_builtin; refine Kd.R_append k102 (w0 := w6) w.heap.size rfl (.tmp 60) (.tmp 66) 60 102 (.agg #[.int .i64 0, .int .i64 0]) 16 rfl Tryd.underlying60 info102 rfl (by decide) (by omega) (.slice Av nv cv_) sp (⟨wrap64 (tq - n), tq⟩ : S102) [.int .i64 (wrap64 (tq - n)), .int .i64 tq] (fun _ => True) (fun _ => False) rfl rfl (k102_mkM _ _ _ _) (fun _ h => h.elim) ?aF ?aO ?aB ?aS ?aL ?_; (case aF => exact fun _ _ => trivial); (case aO => exact HR6.out); (case aB => have h1 := HO6.out.size; exact Below.mono (Below.refl _ _) h1); (case aS => exact HO6.out.size); (case aL => have h1 := HSP.out; have h2 := HKL.out; have h3 := HM.out; have h4 := HK.out; omega); intro v1 w7 hR7 hb7 hg7 hat7; obtain ⟨A9, c9, e9⟩ := Kd.R_slice hR7; obtain ⟨n9, hn9⟩ : ∃ n9, (sp ++ [(⟨wrap64 (tq - n), tq⟩ : S102)]).length = n9 := ⟨_, rfl⟩; rw [hn9] at e9; clear hn9; subst e9; have ho7 : Only (fun k => w.heap.size ≤ k) w6 w7 := (Only.refl _ w6).grown hg7 (fun k e => .inl (Kd.R_base HR6.out k e)); have hL := HL.out; have R7 := Aside0.mk hR7; have X7 := Aside0.mk (HX6.out.only ho7 (by omega) (fun k q => by omega)); have O7 := Aside0.mk (own_grow HO6.out ho7 (Nat.le_refl _)); clear hR7 hb7 hg7 hat7 ho7 hL)
            go_roundg (d + 1)
            case measure => have h1 := HDD.out; have h2 := HG.out; have h3 := HKL.out; omega
            case rel =>
              refine ⟨k + 1, wrap64 (tq - n), ackB tq n (some y), sp ++ [⟨wrap64 (tq - n), tq⟩], by have h3 := HKL.out; omega, by have h1 := HDD.out; omega, rfl, by first | go_num | rfl, ⟨by rw [List.length_append, HSP.out]; rfl⟩, ⟨KEY.out.1⟩, ⟨fun y' hy => ?_⟩, X7, R7, O7⟩
              have h1 := KEY.out.2 y' hy
              rw [← HDD.out, decide_eq_false (show ¬ k + 1 = 0 by omega)]
              exact h1
          have f0 : decide (tq < 0) = false := decide_eq_false q1
          by_cases q2 : tq < n
          · have f1 : decide (tq < n) = true := decide_eq_true q2
            have ebad : ackB tq n (some y) = none := by unfold ackB; rw [if_pos (.inr q2)]
            clear q1 q2
            have EB := Aside0.mk ebad
            clear ebad
            go_upto_region 13 with (go_at_call 83; refine (number_of HX9.out E4.out).mono ?_; rintro e1 w5 ⟨rfl, hx, ho⟩; have HX5 := Aside0.mk hx; have HO5 := Aside0.mk ho; obtain ⟨A5, c5, l5, hr5, _⟩ := HX5.out.any; have c15 := hr5.c1; have f15 := hr5.f1; have HR5 := Aside0.mk hr5; clear hx ho hr5)
            have X6 : Rs w0 (w5.setCell ⟨rb, 1, none⟩ (.bool true)) rb (ackB tq n (some y)) := by
              rw [EB.out]
              exact ⟨_, _, _, HR5.out.mark true⟩
            have hL := HL.out
            have O56 := (HO5.out).setCell (ad := ⟨rb, 1, none⟩) rfl (.bool true)
            have O6 := O9.out.trans O56
            have R6 : Kd.R k102 102 (w5.setCell ⟨rb, 1, none⟩ (.bool true)) w.heap.size (fun _ => True) (.slice Av nv cv_) sp := R_only R9.out O56 (fun k q => by omega)
            have HX6 := Aside0.mk X6
            have HO6 := Aside0.mk O6
            have HR6 := Aside0.mk R6
            clear X6 O56 O6 R6 hL c15 f15
            generalize w5.setCell ⟨rb, 1, none⟩ (.bool true) = w6 at *
            go_wp2_with ((with_reducible refine gate_builtin (b := .append) (xs := #[.tmp 60, .tmp 66]) rfl ?_); at_builtin; refine Kd.R_append k102 (w0 := w6) w.heap.size rfl (.tmp 60) (.tmp 66) 60 102 (.agg #[.int .i64 0, .int .i64 0]) 16 rfl Tryd.underlying60 info102 rfl (by decide) (by omega) (.slice Av nv cv_) sp (⟨wrap64 (tq - n), tq⟩ : S102) [.int .i64 (wrap64 (tq - n)), .int .i64 tq] (fun _ => True) (fun _ => False) rfl rfl (k102_mkM _ _ _ _) (fun _ h => h.elim) ?aF ?aO ?aB ?aS ?aL ?_; (case aF => exact fun _ _ => trivial); (case aO => exact HR6.out); (case aB => have h1 := HO6.out.size; exact Below.mono (Below.refl _ _) h1); (case aS => exact HO6.out.size); (case aL => have h1 := HSP.out; have h2 := HKL.out; have h3 := HM.out; have h4 := HK.out; omega); intro v1 w7 hR7 hb7 hg7 hat7; obtain ⟨A9, c9, e9⟩ := Kd.R_slice hR7; obtain ⟨n9, hn9⟩ : ∃ n9, (sp ++ [(⟨wrap64 (tq - n), tq⟩ : S102)]).length = n9 := ⟨_, rfl⟩; rw [hn9] at e9; clear hn9; subst e9; have ho7 : Only (fun k => w.heap.size ≤ k) w6 w7 := (Only.refl _ w6).grown hg7 (fun k e => .inl (Kd.R_base HR6.out k e)); have hL := HL.out; have R7 := Aside0.mk hR7; have X7 := Aside0.mk (HX6.out.only ho7 (by omega) (fun k q => by omega)); have O7 := Aside0.mk (own_grow HO6.out ho7 (Nat.le_refl _)); clear hR7 hb7 hg7 hat7 ho7 hL)
            go_roundg (d + 1)
            case measure => have h1 := HDD.out; have h2 := HG.out; have h3 := HKL.out; omega
            case rel =>
              refine ⟨k + 1, wrap64 (tq - n), ackB tq n (some y), sp ++ [⟨wrap64 (tq - n), tq⟩], by have h3 := HKL.out; omega, by have h1 := HDD.out; omega, rfl, by first | go_num | rfl, ⟨by rw [List.length_append, HSP.out]; rfl⟩, ⟨KEY.out.1⟩, ⟨fun y' hy => ?_⟩, X7, R7, O7⟩
              have h1 := KEY.out.2 y' hy
              rw [← HDD.out, decide_eq_false (show ¬ k + 1 = 0 by omega)]
              exact h1
          have f1 : decide (tq < n) = false := decide_eq_false q2
          have ebad : ackB tq n (some y) = some y := by unfold ackB; rw [if_neg (by omega)]
          clear q1 q2
          have EB := Aside0.mk ebad
          clear ebad
          go_upto_region 13 with (go_at_call 83; refine (number_of HX9.out E4.out).mono ?_; rintro e1 w5 ⟨rfl, hx, ho⟩; have HX5 := Aside0.mk hx; have HO5 := Aside0.mk ho; obtain ⟨A5, c5, l5, hr5, _⟩ := HX5.out.any; have c15 := hr5.c1; have f15 := hr5.f1; have HR5 := Aside0.mk hr5; clear hx ho hr5)
          have X6 : Rs w0 (w5.setCell ⟨rb, 1, none⟩ (.bool false)) rb (ackB tq n (some y)) := by
            rw [EB.out]
            obtain ⟨A6, c6, hr6⟩ := HX5.out.some_
            exact ⟨_, _, hr6.mark false⟩
          have hL := HL.out
          have O56 := (HO5.out).setCell (ad := ⟨rb, 1, none⟩) rfl (.bool false)
          have O6 := O9.out.trans O56
          have R6 : Kd.R k102 102 (w5.setCell ⟨rb, 1, none⟩ (.bool false)) w.heap.size (fun _ => True) (.slice Av nv cv_) sp := R_only R9.out O56 (fun k q => by omega)
          have HX6 := Aside0.mk X6
          have HO6 := Aside0.mk O6
          have HR6 := Aside0.mk R6
          clear X6 O56 O6 R6 hL c15 f15
          generalize w5.setCell ⟨rb, 1, none⟩ (.bool false) = w6 at *
          go_wp2_with ((with_reducible refine gate_builtin (b := .append) (xs := #[.tmp 60, .tmp 66]) rfl ?_); at_builtin; refine Kd.R_append k102 (w0 := w6) w.heap.size rfl (.tmp 60) (.tmp 66) 60 102 (.agg #[.int .i64 0, .int .i64 0]) 16 rfl Tryd.underlying60 info102 rfl (by decide) (by omega) (.slice Av nv cv_) sp (⟨wrap64 (tq - n), tq⟩ : S102) [.int .i64 (wrap64 (tq - n)), .int .i64 tq] (fun _ => True) (fun _ => False) rfl rfl (k102_mkM _ _ _ _) (fun _ h => h.elim) ?aF ?aO ?aB ?aS ?aL ?_; (case aF => exact fun _ _ => trivial); (case aO => exact HR6.out); (case aB => have h1 := HO6.out.size; exact Below.mono (Below.refl _ _) h1); (case aS => exact HO6.out.size); (case aL => have h1 := HSP.out; have h2 := HKL.out; have h3 := HM.out; have h4 := HK.out; omega); intro v1 w7 hR7 hb7 hg7 hat7; obtain ⟨A9, c9, e9⟩ := Kd.R_slice hR7; obtain ⟨n9, hn9⟩ : ∃ n9, (sp ++ [(⟨wrap64 (tq - n), tq⟩ : S102)]).length = n9 := ⟨_, rfl⟩; rw [hn9] at e9; clear hn9; subst e9; have ho7 : Only (fun k => w.heap.size ≤ k) w6 w7 := (Only.refl _ w6).grown hg7 (fun k e => .inl (Kd.R_base HR6.out k e)); have hL := HL.out; have R7 := Aside0.mk hR7; have X7 := Aside0.mk (HX6.out.only ho7 (by omega) (fun k q => by omega)); have O7 := Aside0.mk (own_grow HO6.out ho7 (Nat.le_refl _)); clear hR7 hb7 hg7 hat7 ho7 hL)
          go_roundg (d + 1)
          case measure => have h1 := HDD.out; have h2 := HG.out; have h3 := HKL.out; omega
          case rel =>
            refine ⟨k + 1, wrap64 (tq - n), ackB tq n (some y), sp ++ [⟨wrap64 (tq - n), tq⟩], by have h3 := HKL.out; omega, by have h1 := HDD.out; omega, rfl, by first | go_num | rfl, ⟨by rw [List.length_append, HSP.out]; rfl⟩, ⟨KEY.out.1⟩, ⟨fun y' hy => ?_⟩, X7, R7, O7⟩
            have h1 := KEY.out.2 y' hy
            rw [← HDD.out, decide_eq_false (show ¬ k + 1 = 0 by omega)]
            exact h1
end Go.Proofs.YtbcleckapamicaaDoor.Rf
namespace Go.Proofs.YtbcleckapamicaaDoor.FrP
open Go.RowKit Go.Proofs.YtbcleckapamicaaDoorW.PrintWords Go.Proofs.YtbcleckapamicaaDoorW.PrintLast Go.Proofs.YtbcleckapamicaaDoorW.PrintMore Go.Proofs.YtbcleckapamicaaDoor.QFr Go.Proofs.YtbcleckapamicaaDoor.Vn
open Go.Proofs.YtbcleckapamicaaDoor.Gv (varint_Size.f)
open Go.Proofs.YtbcleckapamicaaDoor.Gf (ideal_Number.f tbytes)
open Go.Proofs.YtbcleckapamicaaDoor.QVa (varint_Append.f varint_Give.f shibbolethref01_Size.f)
open Go.Proofs.YtbcleckapamicaaDoor.VaP (append_f size_f)
set_option linter.unusedVariables false
set_option linter.unusedSimpArgs false
def ackFrom (l : List S103) : Nat → Nat → List Int
  | _, 0 => []
  | i, d + 1 => (if 0 < i then vbytes ((rd_T103 l ((i - 1 : Nat) : Int)).f0 - (rd_T103 l (i : Int)).f1 - 2) else []) ++ vbytes ((rd_T103 l (i : Int)).f1 - (rd_T103 l (i : Int)).f0) ++ ackFrom l (i + 1) d
theorem ackFrom_len (l : List S103) : ∀ d i, (ackFrom l i d).length ≤ 16 * d := by
  intro d
  induction d with
  | zero => intro i; simp [ackFrom]
  | succ d ih =>
    intro i
    have h1 := ih (i + 1)
    have h2 := vbytes_le ((rd_T103 l ((i - 1 : Nat) : Int)).f0 - (rd_T103 l (i : Int)).f1 - 2)
    have h3 := vbytes_le ((rd_T103 l (i : Int)).f1 - (rd_T103 l (i : Int)).f0)
    simp only [ackFrom, List.length_append]
    split <;> simp <;> omega
theorem acked_l (l : List S103) (hl : l.length ≤ 100) (hok : ∀ j, j < l.length → okAt l j) : ∀ (d i k : Nat) (x : List Int), i + d = l.length → d + 20 < k → x.length + 16 * d ≤ 100000 → frame_acked.l0 k l x l (l.length : Int) (i : Int) = some (x ++ ackFrom l i d) := by
  intro d
  induction d with
  | zero =>
    intro i k x hi hk hx
    obtain ⟨k, rfl⟩ : ∃ m, k = m + 1 := ⟨k - 1, by omega⟩
    simp only [frame_acked.l0, ackFrom]
    rw [if_neg (by omega)]
    simp
  | succ d ih =>
    intro i k x hi hk hx
    obtain ⟨k, rfl⟩ : ∃ m, k = m + 1 := ⟨k - 1, by omega⟩
    have ho := hok i (by omega)
    have ho1 := ho.1
    have ho2 := ho.2.1
    have ho3 := ho.2.2.1
    have h2 := vbytes_le ((rd_T103 l ((i - 1 : Nat) : Int)).f0 - (rd_T103 l (i : Int)).f1 - 2)
    have h3 := vbytes_le ((rd_T103 l (i : Int)).f1 - (rd_T103 l (i : Int)).f0)
    have e2 : wrap64 ((rd_T103 l (i : Int)).f1 - (rd_T103 l (i : Int)).f0) = (rd_T103 l (i : Int)).f1 - (rd_T103 l (i : Int)).f0 := by unfold wrap64; omega
    simp only [frame_acked.l0, ackFrom]
    rw [if_pos (by omega), if_pos (by omega), if_pos (by omega), e2, w1 i (by omega)]
    by_cases h0 : (i : Int) > 0
    · have hp := hok (i - 1) (by omega)
      have hp1 := hp.1
      have hp2 := hp.2.1
      have hp3 := hp.2.2.1
      have ho4 := ho.2.2.2 (by omega)
      rw [if_pos h0, wm1 i (by omega) (by omega), if_pos (by omega), if_pos (by omega), if_pos (by omega)]
      have e3 : wrap64 ((wrap64 ((rd_T103 l ((i - 1 : Nat) : Int)).f0 - (rd_T103 l (i : Int)).f1)) - 2) = (rd_T103 l ((i - 1 : Nat) : Int)).f0 - (rd_T103 l (i : Int)).f1 - 2 := by unfold wrap64; omega
      rw [e3, append_f x _ (by omega) k (by omega)]
      simp only [Option.bind_some]
      rw [append_f _ _ (by simp; omega) k (by omega)]
      simp only [Option.bind_some]
      rw [ih (i + 1) k _ (by omega) (by omega) (by simp; omega)]
      simp
    · rw [if_neg h0, if_neg (by omega), append_f x _ (by omega) k (by omega)]
      simp only [Option.bind_some]
      rw [ih (i + 1) k _ (by omega) (by omega) (by simp; omega)]
      simp
def fbytes (a0 a1 : Int) (l2 : List S103) (a3 : Int) (l4 : List Int) (a5 : Int) : List Int :=
  if a0 = 0 then List.replicate a1.toNat 0 else
  if a0 = 2 then [2] ++ vbytes (rd_T103 l2 0).f1 ++ vbytes ((l2.length : Int) - 1) ++ ackFrom l2 0 l2.length else
  if a0 = 6 then [6] ++ vbytes a3 ++ vbytes l4.length ++ l4 else
  if a0 = 7 then [7] ++ tbytes a5 else
  if a0 = 8 then [8] ++ vbytes a1 ++ tbytes a5 else
  if a0 = 28 then [28] ++ vbytes a1 else [a0 % 256]
theorem tbytes_le (h : Int) : (tbytes h).length ≤ 4 := by unfold tbytes; split <;> simp
theorem fbytes_len (a0 a1 : Int) (l2 : List S103) (a3 : Int) (l4 : List Int) (a5 : Int) (h : fright a0 a1 l2 a3 l4 a5) : (fbytes a0 a1 l2 a3 l4 a5).length ≤ 1300 := by
  unfold fright at h
  unfold fbytes
  have t := tbytes_le a5
  have v1 := vbytes_le a1
  have v3 := vbytes_le a3
  have v4 := vbytes_le (l4.length : Int)
  have v5 := vbytes_le (rd_T103 l2 0).f1
  have v6 := vbytes_le ((l2.length : Int) - 1)
  have v7 := ackFrom_len l2 l2.length 0
  rcases h with h | h | h | h | h | h | h
  · rw [if_pos h.1]; simp; omega
  · rw [if_neg (by omega), if_neg (by omega), if_neg (by omega), if_neg (by omega), if_neg (by omega), if_neg (by omega)]; simp
  · have hs := h.2.1.2.2
    rw [if_neg (by omega), if_pos h.1]; simp; omega
  · rw [if_neg (by omega), if_neg (by omega), if_pos h.1]; simp; omega
  · rw [if_neg (by omega), if_neg (by omega), if_neg (by omega), if_pos h.1]; simp; omega
  · rw [if_neg (by omega), if_neg (by omega), if_neg (by omega), if_neg (by omega), if_pos h.1]; simp; omega
  · rw [if_neg (by omega), if_neg (by omega), if_neg (by omega), if_neg (by omega), if_neg (by omega), if_pos h.1]; simp; omega
theorem give_f (l p : List Int) (hl : l.length ≤ 100000) (hp : p.length ≤ 100000) (k : Nat) (hk : 9 < k) : varint_Give.f k l p = some (l ++ vbytes p.length ++ p) := by
  have h8 := vbytes_le (p.length : Int)
  unfold varint_Give.f
  rw [append_f l _ (by omega) k hk]
  simp only [Option.bind_some]
  rw [if_pos (by rw [List.length_append]; omega)]
theorem bytes_frame (a0 a1 : Int) (l2 : List S103) (a3 : Int) (l4 : List Int) (a5 : Int) (hf : fright a0 a1 l2 a3 l4 a5) (k : Nat) (hk : 200 < k) : frame_bytes.f k a0 a1 l2 a3 l4 a5 = some (fbytes a0 a1 l2 a3 l4 a5) := by
  have h := hf
  unfold fright at h
  unfold frame_bytes.f fbytes ideal_Number.f
  simp only [Option.bind_some]
  have t := tbytes_le a5
  have v1 := vbytes_le a1
  have v3 := vbytes_le a3
  have v4 := vbytes_le (l4.length : Int)
  have v5 := vbytes_le (rd_T103 l2 0).f1
  have v6 := vbytes_le ((l2.length : Int) - 1)
  have v7 := ackFrom_len l2 l2.length 0
  rcases h with h | h | h | h | h | h | h
  · rw [if_pos h.1, if_pos h.1, if_pos (by omega), if_pos (by omega)]
  · have n : a0 ≠ 0 ∧ a0 ≠ 2 ∧ a0 ≠ 6 ∧ a0 ≠ 7 ∧ a0 ≠ 8 ∧ a0 ≠ 28 := by omega
    simp [n.1, n.2.1, n.2.2.1, n.2.2.2.1, n.2.2.2.2.1, n.2.2.2.2.2]
  · obtain ⟨rfl, hS, _⟩ := h
    have hs := hS.2.2
    have hs0 := hS.2.1
    simp only [Int.reduceEq, if_false, if_true]
    unfold frame_acked.f
    have e : wrap64 ((l2.length : Int) - 1) = (l2.length : Int) - 1 := by unfold wrap64; omega
    have ha := acked_l l2 (by omega) hS.1 l2.length 0 k (vbytes (rd_T103 l2 0).f1 ++ vbytes ((l2.length : Int) - 1)) (by omega) (by omega) (by simp; omega)
    rw [if_pos (by omega), e, append_f [] _ (by simp) k (by omega)]
    simp only [Option.bind_some, List.nil_append]
    rw [append_f _ _ (by omega) k (by omega)]
    simp only [Option.bind_some]
    have ha' : frame_acked.l0 k l2 (vbytes (rd_T103 l2 0).f1 ++ vbytes ((l2.length : Int) - 1)) l2 (l2.length : Int) 0 = _ := ha
    rw [ha']
    simp only [Option.bind_some]
    rw [if_pos (by simp; omega)]
    simp
  · obtain ⟨rfl, _⟩ := h
    simp only [Int.reduceEq, if_false, if_true]
    rw [append_f _ _ (by simp) k (by omega)]
    simp only [Option.bind_some]
    rw [give_f _ _ (by simp; omega) (by omega) k (by omega)]
    simp
  · obtain ⟨rfl, _⟩ := h
    simp only [Int.reduceEq, if_false, if_true]
    rw [if_pos (by simp; omega)]
    simp
  · obtain ⟨rfl, _⟩ := h
    simp only [Int.reduceEq, if_false, if_true]
    rw [append_f _ _ (by simp) k (by omega)]
    simp only [Option.bind_some]
    rw [if_pos (by simp; omega)]
    simp
  · obtain ⟨rfl, _⟩ := h
    simp only [Int.reduceEq, if_false, if_true]
    rw [append_f _ _ (by simp) k (by omega)]
    simp
end Go.Proofs.YtbcleckapamicaaDoor.FrP
namespace Go.Proofs.YtbcleckapamicaaDoor.FrP
open Go.RowKit Go.Proofs.YtbcleckapamicaaDoorW.PrintWords Go.Proofs.YtbcleckapamicaaDoorW.PrintLast Go.Proofs.YtbcleckapamicaaDoorW.PrintMore Go.Proofs.YtbcleckapamicaaDoor.QFr Go.Proofs.YtbcleckapamicaaDoor.Vn
set_option linter.unusedVariables false
set_option linter.unusedSimpArgs false
def cvF (x : S62) : S58 := ⟨x.f0, x.f1, cv x.f2, x.f3, x.f4, x.f5⟩
def told (x : List Int) : List Int × Int := if (x.length : Int) > 1200 then ([], 4) else (x, 0)
end Go.Proofs.YtbcleckapamicaaDoor.FrP
namespace Go.Proofs.YtbcleckapamicaaDoor.Rf
open Go Go.RowKit Go.Proofs.YtbcleckapamicaaDoorW.PrintWords Go.Proofs.YtbcleckapamicaaDoorW.PrintLast Go.Proofs.YtbcleckapamicaaDoorW.PrintMore
open Go.Proofs.YtbcleckapamicaaDoor.QFr (S58 S103 k58 k103 S102 k102 k102_mkM S62 k62)
open Go.Proofs.YtbcleckapamicaaDoor.FrP (cv fright cvF)
open Go.Proofs.YtbcleckapamicaaDoor.Onl (Only)
open Go.Proofs.YtbcleckapamicaaDoor.Vn (vread vsize num)
open Go.Proofs.YtbcleckapamicaaDoor.Fd (rnum rbyt rtrm ackR next frames body padF fr58 next_rest fread)
set_option linter.unusedVariables false
set_option linter.unusedSimpArgs false
def fixd (w0 : World) : Kd (List Int) where
  sz := 1
  E := []
  K := fun _ x cs => ∃ v, cs = [v] ∧ Row0 w0 v x
  M := fun _ _ _ x cs => ∃ v, cs = [v] ∧ Row0 w0 v x
  K_len := by
    rintro w x cs ⟨v, rfl, _⟩
    rfl
  K_one := by
    rintro w x cs ⟨v, rfl, A, c, rfl, _⟩ u hu
    rw [List.mem_singleton.1 hu]
    rfl
  K_below := fun _ h => h
  K_of_M := fun h => h
  M_mono := fun _ h => h
  M_bound := fun h => h
  M_move := fun _ h => h
  M_lower := fun _ h => h
def kmx (w0 : World) : Kd S62 := Kd.iso (Kd.pair (Kd.int .i64) (Kd.pair (Kd.int .i64) (Kd.pair (Kd.slice 102 k102) (Kd.pair (Kd.int .i64) (Kd.pair (fixd w0) (Kd.int .i64)))))) (fun x : S62 => (x.f0, x.f1, x.f2, x.f3, x.f4, x.f5))
theorem kmx_mkM (w0 w : World) (base : Nat) (ok : Nat → Prop) (x : S62) {v2 : Value} (g2 : k102.R 102 w base ok v2 x.f2) {v4 : Value} (g4 : Row0 w0 v4 x.f4) : (kmx w0).M w base ok x [.int .i64 x.f0, .int .i64 x.f1, v2, .int .i64 x.f3, v4, .int .i64 x.f5] :=
  ⟨[.int .i64 x.f0], [.int .i64 x.f1, v2, .int .i64 x.f3, v4, .int .i64 x.f5], rfl, rfl, [.int .i64 x.f1], [v2, .int .i64 x.f3, v4, .int .i64 x.f5], rfl, rfl, [v2], [.int .i64 x.f3, v4, .int .i64 x.f5], rfl, ⟨v2, rfl, g2⟩, [.int .i64 x.f3], [v4, .int .i64 x.f5], rfl, rfl, [v4], [.int .i64 x.f5], rfl, ⟨v4, rfl, g4⟩, rfl⟩
theorem kmx_K {w0 w : World} (hb : Below w0.heap.size w0 w) {x : S62} {cs : List Value} (h : (kmx w0).K w x cs) : k62.K w x cs := by
  obtain ⟨c0, c1, rfl, h0, c2, c3, rfl, h1, c4, c5, rfl, h2, c6, c7, rfl, h3, c8, c9, rfl, ⟨v, rfl, A, c, rfl, hC, hl⟩, h5⟩ := h
  exact ⟨c0, _, rfl, h0, c2, _, rfl, h1, c4, _, rfl, h2, c6, _, rfl, h3, _, c9, rfl, ⟨A, c, rfl, hl, Kd.C_below hC hb⟩, h5⟩
theorem kmx_C {w0 w : World} (hb : Below w0.heap.size w0 w) {A : Option Addr} {n : Nat} {xs : List S62} (h : Kd.C (kmx w0) w A n xs) : Kd.C k62 w A n xs :=
  ReadsRow.imp_ (w1 := w) h (Below.refl _ _) (fun _ _ hp => kmx_K hb hp)
def NX (k : Int) (t : List Int) (F : S62) (S : Option (List Int)) : Prop :=
  (S = none → next (k :: t) = none) ∧ ∀ y, S = some y → next (k :: t) = if fr58 (cvF F) then some (cvF F, y) else none
theorem nx_of {k : Int} {t : List Int} {F : S62} {S : Option (List Int)} (h : body k t = S.map fun y => (cvF F, y)) : NX k t F S := by
  constructor
  · intro e; subst e; rw [next, h]; rfl
  · intro y e; subst e; rw [next, h]; rfl
theorem nx_pad (t : List Int) : NX 0 t ⟨0, ((padF t).1 : Int) + 1, [], 0, [], 0⟩ (some (padF t).2) := nx_of (by unfold body; rw [if_pos rfl]; rfl)
theorem nx_ack (t : List Int) (L : List S102) (S : Option (List Int)) (h : (ackR t = none ∧ S = none) ∨ ∃ r, ackR t = some (cv L, r) ∧ S = some r) : NX 2 t ⟨2, 0, L, 0, [], 0⟩ S := by
  refine nx_of ?_
  unfold body
  rw [if_neg (by decide), if_neg (by decide), if_neg (by decide), if_pos rfl]
  rcases h with ⟨h, rfl⟩ | ⟨r, h, rfl⟩
  · rw [h]; rfl
  · rw [h]; rfl
theorem numS_eq (t : List Int) : numS (some t) = match rnum t with | some (n, r) => (n, some r) | none => (0, none) := rfl
theorem nx_crypto (t d : List Int) (a n : Int) (S1 S2 S3 : Option (List Int)) (h1 : numS (some t) = (a, S1)) (h2 : numS S1 = (n, S2)) (h3 : bytS S2 n = (d, S3)) : NX 6 t ⟨6, 0, [], a, d, 0⟩ S3 := by
  refine nx_of ?_
  unfold body
  rw [if_neg (by decide), if_neg (by decide), if_neg (by decide), if_neg (by decide), if_pos rfl]
  rw [numS_eq] at h1
  cases hr : rnum t with
  | none =>
    rw [hr] at h1
    injection h1 with e1 e2
    subst e1 e2
    injection h2 with e1 e2
    subst e1 e2
    injection h3 with e1 e2
    subst e1 e2
    rfl
  | some q =>
    obtain ⟨a', x⟩ := q
    rw [hr] at h1
    injection h1 with e1 e2
    subst e1 e2
    rw [numS_eq] at h2
    rw [Option.bind_some]
    simp only []
    cases hr2 : rnum x with
    | none =>
      rw [hr2] at h2
      injection h2 with e1 e2
      subst e1 e2
      injection h3 with e1 e2
      subst e1 e2
      rfl
    | some q =>
      obtain ⟨n', y⟩ := q
      rw [hr2] at h2
      injection h2 with e1 e2
      subst e1 e2
      rw [Option.bind_some]
      simp only []
      unfold bytS at h3
      rw [Option.bind_some] at h3
      cases hr3 : rbyt y n' with
      | none => rw [hr3] at h3; injection h3 with e1 e2; subst e1 e2; rfl
      | some q => obtain ⟨d', z⟩ := q; rw [hr3] at h3; injection h3 with e1 e2; subst e1 e2; rfl
theorem nx_token (t : List Int) (h : Int) (S : Option (List Int)) (h1 : trmS (some t) = (h, S)) : NX 7 t ⟨7, 0, [], 0, [], h⟩ S := by
  refine nx_of ?_
  unfold body
  rw [if_neg (by decide), if_neg (by decide), if_neg (by decide), if_neg (by decide), if_neg (by decide), if_pos rfl]
  unfold trmS at h1
  rw [Option.bind_some] at h1
  cases hr : rtrm t with
  | none => rw [hr] at h1; injection h1 with e1 e2; subst e1 e2; rfl
  | some q => obtain ⟨d', z⟩ := q; rw [hr] at h1; injection h1 with e1 e2; subst e1 e2; rfl
theorem nx_data (t : List Int) (c h : Int) (S1 S : Option (List Int)) (h0 : numS (some t) = (c, S1)) (h1 : trmS S1 = (h, S)) : NX 8 t ⟨8, c, [], 0, [], h⟩ S := by
  refine nx_of ?_
  unfold body
  rw [if_neg (by decide), if_neg (by decide), if_neg (by decide), if_neg (by decide), if_neg (by decide), if_neg (by decide), if_pos rfl]
  rw [numS_eq] at h0
  cases hr : rnum t with
  | none =>
    rw [hr] at h0
    injection h0 with e1 e2
    subst e1 e2
    injection h1 with e1 e2
    subst e1 e2
    rfl
  | some q =>
    obtain ⟨c', x⟩ := q
    rw [hr] at h0
    injection h0 with e1 e2
    subst e1 e2
    rw [Option.bind_some]
    simp only []
    unfold trmS at h1
    rw [Option.bind_some] at h1
    cases hr : rtrm x with
    | none => rw [hr] at h1; injection h1 with e1 e2; subst e1 e2; rfl
    | some q => obtain ⟨d', z⟩ := q; rw [hr] at h1; injection h1 with e1 e2; subst e1 e2; rfl
theorem nx_closed (t : List Int) (c : Int) (S : Option (List Int)) (h0 : numS (some t) = (c, S)) : NX 28 t ⟨28, c, [], 0, [], 0⟩ S := by
  refine nx_of ?_
  unfold body
  rw [if_neg (by decide), if_neg (by decide), if_neg (by decide), if_neg (by decide), if_neg (by decide), if_neg (by decide), if_neg (by decide), if_pos rfl]
  rw [numS_eq] at h0
  cases hr : rnum t with
  | none => rw [hr] at h0; injection h0 with e1 e2; subst e1 e2; rfl
  | some q => obtain ⟨c', x⟩ := q; rw [hr] at h0; injection h0 with e1 e2; subst e1 e2; rfl
theorem nx_else (k : Int) (t : List Int) (h : k ≠ 0 ∧ k ≠ 2 ∧ k ≠ 6 ∧ k ≠ 7 ∧ k ≠ 8 ∧ k ≠ 28) : NX k t ⟨k, 0, [], 0, [], 0⟩ (some t) := by
  by_cases h1 : k = 1
  · subst h1; exact nx_of (by unfold body; rw [if_neg (by decide), if_pos rfl]; rfl)
  by_cases h30 : k = 30
  · subst h30; exact nx_of (by unfold body; rw [if_neg (by decide), if_neg (by decide), if_pos rfl]; rfl)
  refine ⟨fun q => (by cases q), fun y _ => ?_⟩
  have hb : body k t = none := by
    unfold body
    rw [if_neg h.1, if_neg h1, if_neg h30, if_neg h.2.1, if_neg h.2.2.1, if_neg h.2.2.2.1, if_neg h.2.2.2.2.1, if_neg h.2.2.2.2.2]
  have hf : ¬ fr58 (cvF ⟨k, 0, [], 0, [], 0⟩) := FrP.fright_else _ _ _ _ _ _ ⟨h.1, h1, h30, h.2.1, h.2.2.1, h.2.2.2.1, h.2.2.2.2.1, h.2.2.2.2.2⟩
  rw [if_neg hf, next, hb]; rfl
def meas : Option (List Int) → Nat
  | none => 0
  | some x => x.length + 1
def outS (S : Option (List Int)) (b : Bool) : Option (List Int) := if b = true then S else none
theorem fr_step {k : Int} {t : List Int} {F : S62} {S : Option (List Int)} {b : Bool} {f : Nat} {L : List S62} {res : Option (List S58)} (hN : NX k t F S) (hb : S.isSome = true → (b = true ↔ fr58 (cvF F))) (hf : (k :: t).length < f)
    (hres : (frames f (k :: t)).map (L.map cvF ++ ·) = res) :
    (outS S b = none → res = none) ∧ (meas (outS S b) ≤ t.length + 1) ∧ ∀ y, outS S b = some y → ∃ f', y.length < f' ∧ (frames f' y).map ((L ++ [F]).map cvF ++ ·) = res := by
  obtain ⟨g, rfl⟩ : ∃ g, f = g + 1 := ⟨f - 1, by omega⟩
  rw [frames] at hres
  simp at hf
  unfold outS
  cases S with
  | none =>
    rw [hN.1 rfl] at hres
    refine ⟨fun _ => hres.symm, ?_, fun y hy => ?_⟩
    · cases b <;> simp [meas]
    · cases b <;> simp at hy
  | some y =>
    have hn := hN.2 y rfl
    have hb' := hb rfl
    cases b with
    | true =>
      rw [if_pos (hb'.1 rfl)] at hn
      have hl := next_rest hn
      rw [hn, Option.bind_some, Option.map_map] at hres
      refine ⟨fun q => (by cases q), by simp [meas]; exact hl, fun y' hy => ?_⟩
      injection hy with hy
      subst hy
      refine ⟨g, by omega, ?_⟩
      rw [← hres]
      congr 1
      funext z
      simp
    | false =>
      rw [if_neg (fun q => by have := hb'.2 q; cases this)] at hn
      rw [hn] at hres
      exact ⟨fun _ => hres.symm, by simp [meas], fun y hy => by cases hy⟩
theorem fread_short {l : List Int} (h : l.length ≤ 1200) (h0 : l ≠ []) : fread l = match frames (l.length + 1) l with | none => ([], 3) | some L => (L, 0) := by
  unfold fread
  rw [if_neg (by omega), if_neg h0]
  cases frames (l.length + 1) l <;> rfl
def RefR (w0 w : World) (l : List Int) (en : Ending) (w' : World) : Prop :=
  ∃ v L e, en = .returned (.tuple #[v, .int .i64 e]) ∧ Kd.R (kmx w0) 62 w' w.heap.size (fun _ => True) v L ∧ Below w.heap.size w w' ∧ (L.map cvF, e) = fread l
end Go.Proofs.YtbcleckapamicaaDoor.Rf
namespace Go.Proofs.YtbcleckapamicaaDoor.Rf
open Go Go.RowKit Go.Proofs.YtbcleckapamicaaDoorW.PrintWords Go.Proofs.YtbcleckapamicaaDoorW.PrintLast Go.Proofs.YtbcleckapamicaaDoorW.PrintMore
open Go.Proofs.YtbcleckapamicaaDoor.QFr (S58 S103 k58 k103 S102 k102 k102_mkM S62 k62)
open Go.Proofs.YtbcleckapamicaaDoor.FrP (cv fright cvF)
open Go.Proofs.YtbcleckapamicaaDoor.Onl (Only)
open Go.Proofs.YtbcleckapamicaaDoor.Vn (vread vsize num)
open Go.Proofs.YtbcleckapamicaaDoor.Fd (fr58)
set_option linter.unusedVariables false
set_option linter.unusedSimpArgs false
theorem size_calls (n s : Int) (W : World) (h : vsize n = s) : Calls Tryd.prog 25 #[.int .i64 n] W fun e w' => e = .returned (.int .i64 s) ∧ ∃ m, w' = W.drewN m := by
  subst h
  refine (QVa.shibbolethref01_Size.calls 5 n (vsize n) W (VaP.size_f n 5 (by omega))).mono ?_
  rintro e w' ⟨rfl, ⟨m, rfl⟩⟩
  exact ⟨rfl, m, rfl⟩
theorem vs0 : vsize 0 = 1 := by decide +kernel
set_option maxHeartbeats 2000000 in
set_option maxRecDepth 100000 in
theorem right6 (W : World) (A2 A4 : Option Addr) (c2 c4 : Nat) (a : Int) (d : List Int) : ∃ b : Bool, (b = true ↔ fr58 (cvF (⟨6, 0, [], a, d, 0⟩ : S62))) ∧ Calls Tryd.prog 44 #[.agg #[.int .i64 6, .int .i64 0, .slice A2 0 c2, .int .i64 a, .slice A4 d.length c4, .int .i64 0]] W fun e w' => e = .returned (.bool b) ∧ Below W.heap.size W w' := by
  have hs : vsize 0 = 1 := vs0
  by_cases q : 0 ≤ a
  · have d1_0 : decide (0 ≤ a) = true := decide_eq_true (by omega)
    have Q1 := q
    clear q
    by_cases q : a ≤ 1048576
    · have d2_0 : decide (a ≤ 1048576) = true := decide_eq_true (by omega)
      have Q2 := q
      clear q
      by_cases q : 1 ≤ d.length
      · have d3_0 : decide (1 ≤ (d.length : Int)) = true := decide_eq_true (by omega)
        have d3_1 : decide (1 ≤ d.length) = true := decide_eq_true (by omega)
        have Q3 := q
        clear q
        by_cases q : d.length ≤ 1000
        · have d4_0 : decide ((d.length : Int) ≤ 1000) = true := decide_eq_true (by omega)
          have d4_1 : decide (d.length ≤ 1000) = true := decide_eq_true (by omega)
          have Q4 := q
          clear q
          refine ⟨true, by simp only [fr58, cvF, fright, cv, List.map_nil, List.length_nil]; simp; try omega, ?_⟩
          have HS := Aside0.mk hs
          clear hs
          go_enter Tryd.func44, Tryd.ntmps44
          go_wp2_with (go_at_call 25; refine (size_calls _ _ _ HS.out).mono ?_; rintro e1 w1 ⟨rfl, ⟨m, rfl⟩⟩)
          go_ret
          exact ⟨rfl, pw_below_drewN (below_alloc (Below.refl _ _) _) m⟩
        · have d4_0 : decide ((d.length : Int) ≤ 1000) = false := decide_eq_false (by omega)
          have d4_1 : decide (d.length ≤ 1000) = false := decide_eq_false (by omega)
          have Q4 := q
          clear q
          refine ⟨false, by simp only [fr58, cvF, fright, cv, List.map_nil, List.length_nil]; simp; try omega, ?_⟩
          have HS := Aside0.mk hs
          clear hs
          go_enter Tryd.func44, Tryd.ntmps44
          go_wp2_with (go_at_call 25; refine (size_calls _ _ _ HS.out).mono ?_; rintro e1 w1 ⟨rfl, ⟨m, rfl⟩⟩)
          go_ret
          exact ⟨rfl, pw_below_drewN (below_alloc (Below.refl _ _) _) m⟩
      · have d3_0 : decide (1 ≤ (d.length : Int)) = false := decide_eq_false (by omega)
        have d3_1 : decide (1 ≤ d.length) = false := decide_eq_false (by omega)
        have Q3 := q
        clear q
        refine ⟨false, by simp only [fr58, cvF, fright, cv, List.map_nil, List.length_nil]; simp; try omega, ?_⟩
        have HS := Aside0.mk hs
        clear hs
        go_enter Tryd.func44, Tryd.ntmps44
        go_wp2_with (go_at_call 25; refine (size_calls _ _ _ HS.out).mono ?_; rintro e1 w1 ⟨rfl, ⟨m, rfl⟩⟩)
        go_ret
        exact ⟨rfl, pw_below_drewN (below_alloc (Below.refl _ _) _) m⟩
    · have d2_0 : decide (a ≤ 1048576) = false := decide_eq_false (by omega)
      have Q2 := q
      clear q
      refine ⟨false, by simp only [fr58, cvF, fright, cv, List.map_nil, List.length_nil]; simp; try omega, ?_⟩
      have HS := Aside0.mk hs
      clear hs
      go_enter Tryd.func44, Tryd.ntmps44
      go_wp2_with (go_at_call 25; refine (size_calls _ _ _ HS.out).mono ?_; rintro e1 w1 ⟨rfl, ⟨m, rfl⟩⟩)
      go_ret
      exact ⟨rfl, pw_below_drewN (below_alloc (Below.refl _ _) _) m⟩
  · have d1_0 : decide (0 ≤ a) = false := decide_eq_false (by omega)
    have Q1 := q
    clear q
    refine ⟨false, by simp only [fr58, cvF, fright, cv, List.map_nil, List.length_nil]; simp; try omega, ?_⟩
    have HS := Aside0.mk hs
    clear hs
    go_enter Tryd.func44, Tryd.ntmps44
    go_wp2_with (go_at_call 25; refine (size_calls _ _ _ HS.out).mono ?_; rintro e1 w1 ⟨rfl, ⟨m, rfl⟩⟩)
    go_ret
    exact ⟨rfl, pw_below_drewN (below_alloc (Below.refl _ _) _) m⟩
set_option maxHeartbeats 2000000 in
set_option maxRecDepth 100000 in
theorem right7 (W : World) (A2 A4 : Option Addr) (c2 c4 : Nat) (h : Int) : ∃ b : Bool, (b = true ↔ fr58 (cvF (⟨7, 0, [], 0, [], h⟩ : S62))) ∧ Calls Tryd.prog 44 #[.agg #[.int .i64 7, .int .i64 0, .slice A2 0 c2, .int .i64 0, .slice A4 0 c4, .int .i64 h]] W fun e w' => e = .returned (.bool b) ∧ Below W.heap.size W w' := by
  have hs : vsize 0 = 1 := vs0
  by_cases q : 1 ≤ h
  · have d1_0 : decide (1 ≤ h) = true := decide_eq_true (by omega)
    have Q1 := q
    clear q
    by_cases q : h ≤ 65536
    · have d2_0 : decide (h ≤ 65536) = true := decide_eq_true (by omega)
      have Q2 := q
      clear q
      refine ⟨true, by simp only [fr58, cvF, fright, cv, List.map_nil, List.length_nil]; simp; try omega, ?_⟩
      have HS := Aside0.mk hs
      clear hs
      go_enter Tryd.func44, Tryd.ntmps44
      go_wp2_with (go_at_call 25; refine (size_calls _ _ _ HS.out).mono ?_; rintro e1 w1 ⟨rfl, ⟨m, rfl⟩⟩)
      go_ret
      exact ⟨rfl, pw_below_drewN (below_alloc (Below.refl _ _) _) m⟩
    · have d2_0 : decide (h ≤ 65536) = false := decide_eq_false (by omega)
      have Q2 := q
      clear q
      refine ⟨false, by simp only [fr58, cvF, fright, cv, List.map_nil, List.length_nil]; simp; try omega, ?_⟩
      have HS := Aside0.mk hs
      clear hs
      go_enter Tryd.func44, Tryd.ntmps44
      go_wp2_with (go_at_call 25; refine (size_calls _ _ _ HS.out).mono ?_; rintro e1 w1 ⟨rfl, ⟨m, rfl⟩⟩)
      go_ret
      exact ⟨rfl, pw_below_drewN (below_alloc (Below.refl _ _) _) m⟩
  · have d1_0 : decide (1 ≤ h) = false := decide_eq_false (by omega)
    have Q1 := q
    clear q
    refine ⟨false, by simp only [fr58, cvF, fright, cv, List.map_nil, List.length_nil]; simp; try omega, ?_⟩
    have HS := Aside0.mk hs
    clear hs
    go_enter Tryd.func44, Tryd.ntmps44
    go_wp2_with (go_at_call 25; refine (size_calls _ _ _ HS.out).mono ?_; rintro e1 w1 ⟨rfl, ⟨m, rfl⟩⟩)
    go_ret
    exact ⟨rfl, pw_below_drewN (below_alloc (Below.refl _ _) _) m⟩
theorem vpos (c : Int) : (0 < vsize c) ↔ (0 ≤ c ∧ c ≤ 4611686018427387903) := FrP.vsize_pos c
set_option maxHeartbeats 2000000 in
set_option maxRecDepth 100000 in
theorem right8 (W : World) (A2 A4 : Option Addr) (c2 c4 : Nat) (c h : Int) : ∃ b : Bool, (b = true ↔ fr58 (cvF (⟨8, c, [], 0, [], h⟩ : S62))) ∧ Calls Tryd.prog 44 #[.agg #[.int .i64 8, .int .i64 c, .slice A2 0 c2, .int .i64 0, .slice A4 0 c4, .int .i64 h]] W fun e w' => e = .returned (.bool b) ∧ Below W.heap.size W w' := by
  obtain ⟨s, hs⟩ : ∃ s, vsize c = s := ⟨_, rfl⟩
  have hv := vpos c
  rw [hs] at hv
  by_cases q : 1 ≤ h
  · have d1_0 : decide (1 ≤ h) = true := decide_eq_true (by omega)
    have Q1 := q
    clear q
    by_cases q : h ≤ 65536
    · have d2_0 : decide (h ≤ 65536) = true := decide_eq_true (by omega)
      have Q2 := q
      clear q
      by_cases q : 0 < s
      · have d3_0 : decide (0 < s) = true := decide_eq_true (by omega)
        have Q3 := q
        clear q
        refine ⟨true, by simp only [fr58, cvF, fright, cv, List.map_nil, List.length_nil]; simp; try omega, ?_⟩
        have HS := Aside0.mk hs
        clear hs hv
        go_enter Tryd.func44, Tryd.ntmps44
        go_wp2_with (go_at_call 25; refine (size_calls _ _ _ HS.out).mono ?_; rintro e1 w1 ⟨rfl, ⟨m, rfl⟩⟩)
        go_ret
        exact ⟨rfl, pw_below_drewN (below_alloc (Below.refl _ _) _) m⟩
      · have d3_0 : decide (0 < s) = false := decide_eq_false (by omega)
        have Q3 := q
        clear q
        refine ⟨false, by simp only [fr58, cvF, fright, cv, List.map_nil, List.length_nil]; simp; try omega, ?_⟩
        have HS := Aside0.mk hs
        clear hs hv
        go_enter Tryd.func44, Tryd.ntmps44
        go_wp2_with (go_at_call 25; refine (size_calls _ _ _ HS.out).mono ?_; rintro e1 w1 ⟨rfl, ⟨m, rfl⟩⟩)
        go_ret
        exact ⟨rfl, pw_below_drewN (below_alloc (Below.refl _ _) _) m⟩
    · have d2_0 : decide (h ≤ 65536) = false := decide_eq_false (by omega)
      have Q2 := q
      clear q
      refine ⟨false, by simp only [fr58, cvF, fright, cv, List.map_nil, List.length_nil]; simp; try omega, ?_⟩
      have HS := Aside0.mk hs
      clear hs hv
      go_enter Tryd.func44, Tryd.ntmps44
      go_wp2_with (go_at_call 25; refine (size_calls _ _ _ HS.out).mono ?_; rintro e1 w1 ⟨rfl, ⟨m, rfl⟩⟩)
      go_ret
      exact ⟨rfl, pw_below_drewN (below_alloc (Below.refl _ _) _) m⟩
  · have d1_0 : decide (1 ≤ h) = false := decide_eq_false (by omega)
    have Q1 := q
    clear q
    refine ⟨false, by simp only [fr58, cvF, fright, cv, List.map_nil, List.length_nil]; simp; try omega, ?_⟩
    have HS := Aside0.mk hs
    clear hs hv
    go_enter Tryd.func44, Tryd.ntmps44
    go_wp2_with (go_at_call 25; refine (size_calls _ _ _ HS.out).mono ?_; rintro e1 w1 ⟨rfl, ⟨m, rfl⟩⟩)
    go_ret
    exact ⟨rfl, pw_below_drewN (below_alloc (Below.refl _ _) _) m⟩
set_option maxHeartbeats 2000000 in
set_option maxRecDepth 100000 in
theorem right28 (W : World) (A2 A4 : Option Addr) (c2 c4 : Nat) (c : Int) : ∃ b : Bool, (b = true ↔ fr58 (cvF (⟨28, c, [], 0, [], 0⟩ : S62))) ∧ Calls Tryd.prog 44 #[.agg #[.int .i64 28, .int .i64 c, .slice A2 0 c2, .int .i64 0, .slice A4 0 c4, .int .i64 0]] W fun e w' => e = .returned (.bool b) ∧ Below W.heap.size W w' := by
  obtain ⟨s, hs⟩ : ∃ s, vsize c = s := ⟨_, rfl⟩
  have hv := vpos c
  rw [hs] at hv
  by_cases q : 0 < s
  · have d1_0 : decide (0 < s) = true := decide_eq_true (by omega)
    have Q1 := q
    clear q
    refine ⟨true, by simp only [fr58, cvF, fright, cv, List.map_nil, List.length_nil]; simp; try omega, ?_⟩
    have HS := Aside0.mk hs
    clear hs hv
    go_enter Tryd.func44, Tryd.ntmps44
    go_wp2_with (go_at_call 25; refine (size_calls _ _ _ HS.out).mono ?_; rintro e1 w1 ⟨rfl, ⟨m, rfl⟩⟩)
    go_ret
    exact ⟨rfl, pw_below_drewN (below_alloc (Below.refl _ _) _) m⟩
  · have d1_0 : decide (0 < s) = false := decide_eq_false (by omega)
    have Q1 := q
    clear q
    refine ⟨false, by simp only [fr58, cvF, fright, cv, List.map_nil, List.length_nil]; simp; try omega, ?_⟩
    have HS := Aside0.mk hs
    clear hs hv
    go_enter Tryd.func44, Tryd.ntmps44
    go_wp2_with (go_at_call 25; refine (size_calls _ _ _ HS.out).mono ?_; rintro e1 w1 ⟨rfl, ⟨m, rfl⟩⟩)
    go_ret
    exact ⟨rfl, pw_below_drewN (below_alloc (Below.refl _ _) _) m⟩
set_option maxHeartbeats 2000000 in
set_option maxRecDepth 100000 in
theorem right0 (W : World) (A2 A4 : Option Addr) (c2 c4 : Nat) (c : Int) : ∃ b : Bool, (b = true ↔ fr58 (cvF (⟨0, c, [], 0, [], 0⟩ : S62))) ∧ Calls Tryd.prog 44 #[.agg #[.int .i64 0, .int .i64 c, .slice A2 0 c2, .int .i64 0, .slice A4 0 c4, .int .i64 0]] W fun e w' => e = .returned (.bool b) ∧ Below W.heap.size W w' := by
  obtain ⟨s, hs⟩ : ∃ s, vsize c = s := ⟨_, rfl⟩
  have hv := vpos c
  rw [hs] at hv
  by_cases q : 1 ≤ c
  · have d1_0 : decide (1 ≤ c) = true := decide_eq_true (by omega)
    have Q1 := q
    clear q
    by_cases q : c ≤ 1200
    · have d2_0 : decide (c ≤ 1200) = true := decide_eq_true (by omega)
      have Q2 := q
      clear q
      refine ⟨true, by simp only [fr58, cvF, fright, cv, List.map_nil, List.length_nil]; simp; try omega, ?_⟩
      have HS := Aside0.mk hs
      clear hs hv
      go_enter Tryd.func44, Tryd.ntmps44
      go_wp2_with (go_at_call 25; refine (size_calls _ _ _ HS.out).mono ?_; rintro e1 w1 ⟨rfl, ⟨m, rfl⟩⟩)
      go_ret
      exact ⟨rfl, pw_below_drewN (below_alloc (Below.refl _ _) _) m⟩
    · have d2_0 : decide (c ≤ 1200) = false := decide_eq_false (by omega)
      have Q2 := q
      clear q
      refine ⟨false, by simp only [fr58, cvF, fright, cv, List.map_nil, List.length_nil]; simp; try omega, ?_⟩
      have HS := Aside0.mk hs
      clear hs hv
      go_enter Tryd.func44, Tryd.ntmps44
      go_wp2_with (go_at_call 25; refine (size_calls _ _ _ HS.out).mono ?_; rintro e1 w1 ⟨rfl, ⟨m, rfl⟩⟩)
      go_ret
      exact ⟨rfl, pw_below_drewN (below_alloc (Below.refl _ _) _) m⟩
  · have d1_0 : decide (1 ≤ c) = false := decide_eq_false (by omega)
    have Q1 := q
    clear q
    refine ⟨false, by simp only [fr58, cvF, fright, cv, List.map_nil, List.length_nil]; simp; try omega, ?_⟩
    have HS := Aside0.mk hs
    clear hs hv
    go_enter Tryd.func44, Tryd.ntmps44
    go_wp2_with (go_at_call 25; refine (size_calls _ _ _ HS.out).mono ?_; rintro e1 w1 ⟨rfl, ⟨m, rfl⟩⟩)
    go_ret
    exact ⟨rfl, pw_below_drewN (below_alloc (Below.refl _ _) _) m⟩
set_option maxHeartbeats 2000000 in
set_option maxRecDepth 100000 in
theorem right1 (W : World) (A2 A4 : Option Addr) (c2 c4 : Nat)  : ∃ b : Bool, (b = true ↔ fr58 (cvF (⟨1, 0, [], 0, [], 0⟩ : S62))) ∧ Calls Tryd.prog 44 #[.agg #[.int .i64 1, .int .i64 0, .slice A2 0 c2, .int .i64 0, .slice A4 0 c4, .int .i64 0]] W fun e w' => e = .returned (.bool b) ∧ Below W.heap.size W w' := by
  have hs : vsize 0 = 1 := vs0
  refine ⟨true, by simp only [fr58, cvF, fright, cv, List.map_nil, List.length_nil]; simp; try omega, ?_⟩
  have HS := Aside0.mk hs
  clear hs
  go_enter Tryd.func44, Tryd.ntmps44
  go_wp2_with (go_at_call 25; refine (size_calls _ _ _ HS.out).mono ?_; rintro e1 w1 ⟨rfl, ⟨m, rfl⟩⟩)
  go_ret
  exact ⟨rfl, pw_below_drewN (below_alloc (Below.refl _ _) _) m⟩
set_option maxHeartbeats 2000000 in
set_option maxRecDepth 100000 in
theorem right30 (W : World) (A2 A4 : Option Addr) (c2 c4 : Nat)  : ∃ b : Bool, (b = true ↔ fr58 (cvF (⟨30, 0, [], 0, [], 0⟩ : S62))) ∧ Calls Tryd.prog 44 #[.agg #[.int .i64 30, .int .i64 0, .slice A2 0 c2, .int .i64 0, .slice A4 0 c4, .int .i64 0]] W fun e w' => e = .returned (.bool b) ∧ Below W.heap.size W w' := by
  have hs : vsize 0 = 1 := vs0
  refine ⟨true, by simp only [fr58, cvF, fright, cv, List.map_nil, List.length_nil]; simp; try omega, ?_⟩
  have HS := Aside0.mk hs
  clear hs
  go_enter Tryd.func44, Tryd.ntmps44
  go_wp2_with (go_at_call 25; refine (size_calls _ _ _ HS.out).mono ?_; rintro e1 w1 ⟨rfl, ⟨m, rfl⟩⟩)
  go_ret
  exact ⟨rfl, pw_below_drewN (below_alloc (Below.refl _ _) _) m⟩
set_option maxHeartbeats 2000000 in
set_option maxRecDepth 100000 in
theorem rightE (W : World) (A2 A4 : Option Addr) (c2 c4 : Nat) (k : Int) (hk : k ≠ 0 ∧ k ≠ 1 ∧ k ≠ 2 ∧ k ≠ 6 ∧ k ≠ 7 ∧ k ≠ 8 ∧ k ≠ 28 ∧ k ≠ 30) : ∃ b : Bool, (b = true ↔ fr58 (cvF (⟨k, 0, [], 0, [], 0⟩ : S62))) ∧ Calls Tryd.prog 44 #[.agg #[.int .i64 k, .int .i64 0, .slice A2 0 c2, .int .i64 0, .slice A4 0 c4, .int .i64 0]] W fun e w' => e = .returned (.bool b) ∧ Below W.heap.size W w' := by
  have HS := Aside0.mk vs0
  refine ⟨false, by simp only [fr58, cvF, fright, cv, List.map_nil, List.length_nil]; simp; try omega, ?_⟩
  have e0 : (k == 0) = false := by simp; omega
  have n0 : (k != 0) = true := by simp; omega
  have m0 : decide (k = 0) = false := by simp; omega
  have e1 : (k == 1) = false := by simp; omega
  have n1 : (k != 1) = true := by simp; omega
  have m1 : decide (k = 1) = false := by simp; omega
  have e2 : (k == 2) = false := by simp; omega
  have n2 : (k != 2) = true := by simp; omega
  have m2 : decide (k = 2) = false := by simp; omega
  have e6 : (k == 6) = false := by simp; omega
  have n6 : (k != 6) = true := by simp; omega
  have m6 : decide (k = 6) = false := by simp; omega
  have e7 : (k == 7) = false := by simp; omega
  have n7 : (k != 7) = true := by simp; omega
  have m7 : decide (k = 7) = false := by simp; omega
  have e8 : (k == 8) = false := by simp; omega
  have n8 : (k != 8) = true := by simp; omega
  have m8 : decide (k = 8) = false := by simp; omega
  have e28 : (k == 28) = false := by simp; omega
  have n28 : (k != 28) = true := by simp; omega
  have m28 : decide (k = 28) = false := by simp; omega
  have e30 : (k == 30) = false := by simp; omega
  have n30 : (k != 30) = true := by simp; omega
  have m30 : decide (k = 30) = false := by simp; omega
  clear hk
  go_enter Tryd.func44, Tryd.ntmps44
  go_wp2_with (go_at_call 25; refine (size_calls _ _ _ HS.out).mono ?_; rintro e1 w1 ⟨rfl, ⟨m, rfl⟩⟩)
  go_ret
  exact ⟨rfl, pw_below_drewN (below_alloc (Below.refl _ _) _) m⟩
def Shp (F : S62) : Prop := F.f0 = 2 ∨ (F.f2 = [] ∧ ((F.f0 = 6 ∧ F.f1 = 0 ∧ F.f5 = 0) ∨ (F.f3 = 0 ∧ F.f4 = [] ∧ ((F.f0 = 7 ∧ F.f1 = 0) ∨ F.f0 = 8 ∨ (F.f5 = 0 ∧ (F.f0 = 28 ∨ F.f0 = 0 ∨ F.f1 = 0))))))
theorem right_of {w0 W : World} (F : S62) {v2 v4 : Value} {base : Nat} {ok : Nat → Prop} (g2 : Kd.R k102 102 W base ok v2 F.f2) (g4 : Row0 w0 v4 F.f4) (hb : Below w0.heap.size w0 W) (hl : F.f2.length ≤ 100) (hs : Shp F) :
    ∃ b : Bool, (b = true ↔ fr58 (cvF F)) ∧ Calls Tryd.prog 44 #[.agg #[.int .i64 F.f0, .int .i64 F.f1, v2, .int .i64 F.f3, v4, .int .i64 F.f5]] W fun e w' => e = .returned (.bool b) ∧ Below W.heap.size W w' := by
  obtain ⟨A2, c2, rfl, hl2, hC2⟩ := Kd.R_reads g2
  obtain ⟨A4, c4, rfl, hC4, hl4⟩ := g4
  by_cases h2 : F.f0 = 2
  · obtain ⟨b, hf, hb'⟩ := FrP.Right_f F.f0 F.f1 F.f2 F.f3 F.f4 F.f5 hl 1000 (by omega)
    exact ⟨b, hb', QFr.shibbolethref06_Right.callsa 1000 F.f0 F.f1 A2 c2 F.f2 F.f3 A4 c4 F.f4 F.f5 b W h2 hC2 hl2 (Kd.C_below hC4 hb) hl4 hf⟩
  · obtain ⟨f0, f1, f2, f3, f4, f5⟩ := F
    rcases hs with h | ⟨e2, hs⟩
    · exact absurd h h2
    · simp only [] at e2 hs h2
      subst e2
      rcases hs with ⟨rfl, rfl, rfl⟩ | ⟨rfl, rfl, hs⟩
      · exact right6 W A2 A4 c2 c4 f3 f4
      · rcases hs with ⟨rfl, rfl⟩ | rfl | ⟨rfl, hs⟩
        · exact right7 W A2 A4 c2 c4 f5
        · exact right8 W A2 A4 c2 c4 f1 f5
        · by_cases h28 : f0 = 28
          · subst h28; exact right28 W A2 A4 c2 c4 f1
          by_cases h0 : f0 = 0
          · subst h0; exact right0 W A2 A4 c2 c4 f1
          obtain rfl : f1 = 0 := by rcases hs with h | h | h <;> first | exact absurd h h28 | exact absurd h h0 | exact h
          by_cases h1 : f0 = 1
          · subst h1; exact right1 W A2 A4 c2 c4
          by_cases h30 : f0 = 30
          · subst h30; exact right30 W A2 A4 c2 c4
          by_cases h6 : f0 = 6
          · subst h6; exact right6 W A2 A4 c2 c4 0 []
          by_cases h7 : f0 = 7
          · subst h7; exact right7 W A2 A4 c2 c4 0
          by_cases h8 : f0 = 8
          · subst h8; exact right8 W A2 A4 c2 c4 0 0
          exact rightE W A2 A4 c2 c4 f0 ⟨h0, h1, h2, h6, h7, h8, h28, h30⟩
end Go.Proofs.YtbcleckapamicaaDoor.Rf
