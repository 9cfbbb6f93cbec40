/- StreamOrders: its function, walked by hand: at bytes it answers true. -/
import Derived.Test.YtbcleckapamicaaOrd1
import Derived.Test.YtbcleckapamicaaQSax0
namespace Go.Proofs.Ytbcleckapamicaa.QSo
open Go Go.RowKit Go.Proofs.YtbcleckapamicaaW.PrintWords Go.Proofs.YtbcleckapamicaaW.PrintLast Go.Proofs.YtbcleckapamicaaW.PrintMore
attribute [local go_sem] max2_int min2_int max_two min_two max_three min_three max_four min_four
open Go.Proofs.Ytbcleckapamicaa.QSs (shibbolethlaw13_same.f shibbolethlaw13_same.calls shibbolethlaw13_same.l0)
open Go.Proofs.Ytbcleckapamicaa.Stm (Bytes bytes_rd Only info5 wf64 St Tr FB putE putF nextR cut cut_zero After NextPost awake_calls next_calls put_calls taken_calls)
open Go.Proofs.Ytbcleckapamicaa.Rst (row_keep row_lt row_ge)
open Go.Proofs.Ytbcleckapamicaa.Msg (msg msg_len message_calls)
open Go.Proofs.Ytbcleckapamicaa.Ord
open Go.Proofs.Ytbcleckapamicaa.QSa (same_f c_lt)
set_option linter.unusedVariables false
set_option linter.unusedSimpArgs false

theorem info44 : (Try.prog.info? 44).map (fun i => (i.zero, i.size, i.bytes)) = some (some (.slice none 0 0), 1, 24) := by kernel_rfl
abbrev KR : Kd (List Int) := Kd.slice 5 (Kd.int .u8)
/-- The messages and their bytes, while they are made. -/
structure W1 (w wr : World) (vA vW : Value) (ms : List (List Int)) (fl : List Int) : Prop where
  rw_ : KR.R 44 wr w.heap.size (fun k => some k ≠ vA.ownBlock) vW ms
  ra : (Kd.int .u8).R 5 wr w.heap.size (fun _ => True) vA fl
  bl : Below w.heap.size w wr
theorem W1.nil (w : World) : W1 w w (.slice none 0 0) (.slice none 0 0) [] [] := ⟨Kd.R_nil _ _ _ _ _, Kd.R_nil _ _ _ _ _, Below.refl _ _⟩
theorem W1.below {w wr w' : World} {vA vW : Value} {ms : List (List Int)} {fl : List Int} (h : W1 w wr vA vW ms fl) (hb : Below wr.heap.size wr w') : W1 w w' vA vW ms fl := ⟨Kd.R_below h.rw_ hb, Kd.R_below h.ra hb, below_step h.bl hb⟩
/-- The pieces' beginnings and ends, while they are made. -/
structure P2 (w1 ws : World) (vf vt : Value) (fr te : List Int) : Prop where
  rf : (Kd.int .i64).R 3 ws w1.heap.size (fun _ => True) vf fr
  rt : (Kd.int .i64).R 3 ws w1.heap.size (fun _ => True) vt te
  ab : ∀ k, vf.ownBlock = some k → vt.ownBlock ≠ some k
  bl : Below w1.heap.size w1 ws
theorem P2.nil (w : World) : P2 w w (.slice none 0 0) (.slice none 0 0) [] [] := ⟨Kd.R_nil _ _ _ _ _, Kd.R_nil _ _ _ _ _, fun k h => by simp [Value.ownBlock] at h, Below.refl _ _⟩
theorem P2.appF {w1 ws w' : World} {vf vt v1 : Value} {fr te zs : List Int} (h : P2 w1 ws vf vt fr te) (hr : (Kd.int .i64).R 3 w' w1.heap.size (fun _ => True) v1 zs) (hb : Below w1.heap.size w1 w') (hg : ws.grownBy w' vf.ownBlock) (hat : v1.ownBlock = vf.ownBlock ∨ ∃ b, v1.ownBlock = some b ∧ ws.heap.size ≤ b) : P2 w1 w' v1 vt zs te := by
  refine ⟨hr, row_keep h.rt (fun k hk => hg.block k (row_lt h.rt k hk) (fun e => h.ab k e.symm hk)), fun k hk hk2 => ?_, hb⟩
  rcases hat with e | ⟨b, e, hb⟩
  · exact h.ab k (e ▸ hk) hk2
  · rw [hk] at e
    injection e with e
    have := row_lt h.rt k hk2
    omega
theorem P2.appT {w1 ws w' : World} {vf vt v1 : Value} {fr te zs : List Int} (h : P2 w1 ws vf vt fr te) (hr : (Kd.int .i64).R 3 w' w1.heap.size (fun _ => True) v1 zs) (hb : Below w1.heap.size w1 w') (hg : ws.grownBy w' vt.ownBlock) (hat : v1.ownBlock = vt.ownBlock ∨ ∃ b, v1.ownBlock = some b ∧ ws.heap.size ≤ b) : P2 w1 w' vf v1 fr zs := by
  refine ⟨row_keep h.rf (fun k hk => hg.block k (row_lt h.rf k hk) (fun e => h.ab k hk e.symm)), hr, fun k hk hk2 => ?_, hb⟩
  rcases hat with e | ⟨b, e, hb⟩
  · exact h.ab k hk (e ▸ hk2)
  · rw [hk2] at e
    injection e with e
    have := row_lt h.rf k hk
    omega
theorem take_succ' (l : List (List Int)) (j : Nat) (hj : j < l.length) : l.take (j + 1) = l.take j ++ [l.getD j []] := by
  rw [List.take_succ_eq_append_getElem hj]
  simp [List.getD_eq_getElem?_getD, List.getElem?_eq_getElem hj]
theorem msgs_take (l : List (List Int)) (j : Nat) (hj : j < l.length) : msgs 0 (l.take (j + 1)) = msgs 0 (l.take j) ++ [msg j (l.getD j [])] := by
  rw [take_succ' l j hj, msgs_snoc, List.length_take, Nat.min_eq_left (by omega), Nat.zero_add]
theorem flat_le : ∀ (l : List (List Int)) (k : Nat), (∀ i, i < l.length → (l.getD i []).length ≤ 100) → (msgs k l).flatten.length ≤ 104 * l.length := by
  intro l
  induction l with
  | nil => intro k _; simp [msgs]
  | cons b l ih =>
    intro k h
    have h0 := h 0 (by simp)
    have h1 := ih (k + 1) (fun i hi => by have := h (i + 1) (by simp; omega); simpa using this)
    simp only [msgs, List.flatten_cons, List.length_append, msg_len, List.length_cons]
    simp at h0
    omega

/-! ### shibbolethlaw13_StreamOrders: function 8 -/
def shibbolethlaw13_StreamOrders.f (l0 : List (List Int)) (l1 l2 : List Int) : Option Bool := if (∀ b ∈ l0, Bytes b) ∧ Bytes l1 ∧ Bytes l2 then some true else none
set_option maxHeartbeats 2000000 in
set_option maxRecDepth 100000 in
theorem shibbolethlaw13_StreamOrders.calls (A0 : Option Addr) (c0 : Nat) (l0 : List (List Int)) (A1 : Option Addr) (c1 : Nat) (l1 : List Int) (A2 : Option Addr) (c2 : Nat) (l2 : List Int) (r : Bool) (w : World) (hr0 : Kd.C KR w A0 l0.length l0) (hc0 : l0.length ≤ c0) (hr1 : Kd.C (Kd.int .u8) w A1 l1.length l1) (hc1 : l1.length ≤ c1) (hr2 : Kd.C (Kd.int .u8) w A2 l2.length l2) (hc2 : l2.length ≤ c2) (h : shibbolethlaw13_StreamOrders.f l0 l1 l2 = some r) :
    Calls Try.prog 8 #[.slice A0 l0.length c0, .slice A1 l1.length c1, .slice A2 l2.length c2] w fun e w' => e = .returned (.bool r) ∧ Below w.heap.size w w' := by
  obtain ⟨hB0, hB1, hB2, rfl⟩ : (∀ b ∈ l0, Bytes b) ∧ Bytes l1 ∧ Bytes l2 ∧ r = true := by
    unfold shibbolethlaw13_StreamOrders.f at h
    split at h
    · rename_i q; exact ⟨q.1, q.2.1, q.2.2, (Option.some.inj h).symm⟩
    · cases h
  clear h
  have HR0 := Aside0.mk hr0
  have HR1 := Aside0.mk hr1
  have HR2 := Aside0.mk hr2
  have HB0 := Aside0.mk hB0
  have HB1 := Aside0.mk hB1
  have HB2 := Aside0.mk hB2
  clear hr0 hr1 hr2 hc0 hc1 hc2 hB0 hB1 hB2
  by_cases b1 : 8 < (l0.length : Int)
  · have d1 : decide (8 < (l0.length : Int)) = true := decide_eq_true b1
    have d1' : decide (8 < l0.length) = true := decide_eq_true (by omega)
    clear b1
    go_enter Try.func8, Try.ntmps8
    go_wp2
    go_ret
    exact ⟨rfl, Below.refl _ _⟩
  have d1 : decide (8 < (l0.length : Int)) = false := decide_eq_false b1
  have d1' : decide (8 < l0.length) = false := decide_eq_false (by omega)
  by_cases b2 : 100 < (l1.length : Int)
  · have d2 : decide (100 < (l1.length : Int)) = true := decide_eq_true b2
    have d2' : decide (100 < l1.length) = true := decide_eq_true (by omega)
    clear b1 b2
    go_enter Try.func8, Try.ntmps8
    go_wp2
    go_ret
    exact ⟨rfl, Below.refl _ _⟩
  have d2 : decide (100 < (l1.length : Int)) = false := decide_eq_false b2
  have d2' : decide (100 < l1.length) = false := decide_eq_false (by omega)
  by_cases b3 : 200 < (l2.length : Int)
  · have d3 : decide (200 < (l2.length : Int)) = true := decide_eq_true b3
    have d3' : decide (200 < l2.length) = true := decide_eq_true (by omega)
    clear b1 b2 b3
    go_enter Try.func8, Try.ntmps8
    go_wp2
    go_ret
    exact ⟨rfl, Below.refl _ _⟩
  have d3 : decide (200 < (l2.length : Int)) = false := decide_eq_false b3
  have d3' : decide (200 < l2.length) = false := decide_eq_false (by omega)
  have LEN := Aside0.mk (show l0.length ≤ 8 ∧ l1.length ≤ 100 ∧ l2.length ≤ 200 by omega)
  clear b1 b2 b3
  go_enter Try.func8, Try.ntmps8
  go_wp2
  clear d1 d1' d2 d2' d3 d3'
  go_loopg [7, 8, 9] l0.length (fun gg v7 v8 v9 wr => ∃ j : Nat, j ≤ l0.length ∧ l0.length - j ≤ gg ∧ v9 = .int .i64 j ∧ W1 w wr v7 v8 (msgs 0 (l0.take j)) (msgs 0 (l0.take j)).flatten ∧ Aside0 (∀ i, i < j → (l0.getD i []).length ≤ 100))
  case atStart => exact ⟨0, Nat.zero_le _, by omega, rfl, W1.nil w, ⟨fun i hi => by omega⟩⟩
  case round =>
    obtain ⟨j, hj, hg, rfl, hW, HS⟩ := hrel
    by_cases hlt : j < l0.length
    · have hltz : (j : Int) < (l0.length : Int) := by omega
      obtain ⟨ad, Ab, cb, eA, hcell, hle, hCb⟩ := Gw.at_rows HR0.out j hlt
      subst eA
      have hcell := pw_cell_below hW.bl hcell
      have hCb := Kd.C_below hCb hW.bl
      have EW := Aside0.mk (show wrap64 ((j : Int) + 1) = ((j + 1 : Nat) : Int) by have := LEN.out; unfold wrap64; omega)
      have MT := Aside0.mk (msgs_take l0 j hlt)
      have FL := Aside0.mk (show (msgs 0 (l0.take j)).flatten.length ≤ 832 by
        have h1 := flat_le (l0.take j) 0 (fun i hi => by
          have hi' : i < j := by rw [List.length_take] at hi; omega
          have := HS.out i hi'
          simpa [List.getD_eq_getElem?_getD, List.getElem?_take, hi'] using this)
        have := LEN.out
        rw [List.length_take] at h1
        have := Nat.min_le_right j l0.length
        omega)
      have ML := Aside0.mk (show (msgs 0 (l0.take j)).length ≤ 8 by rw [msgs_length]; have := LEN.out; rw [List.length_take]; omega)
      obtain ⟨ms, hms⟩ : ∃ ms, msgs 0 (l0.take j) = ms := ⟨_, rfl⟩
      rw [hms] at hW FL ML MT
      obtain ⟨fl, hfl⟩ : ∃ fl, ms.flatten = fl := ⟨_, rfl⟩
      rw [hfl] at hW FL
      have HFL := Aside0.mk hfl
      clear hms hfl
      obtain ⟨A7, c7, e7⟩ := Kd.R_slice hW.ra
      obtain ⟨A8, c8, e8⟩ := Kd.R_slice hW.rw_
      subst e7
      subst e8
      have HW := Aside0.mk hW
      have JK := Aside0.mk (show j ≤ 255 by have := LEN.out; omega)
      obtain ⟨b, hb⟩ : ∃ b, l0.getD j [] = b := ⟨_, rfl⟩
      rw [hb] at hcell hle hCb MT
      have HBE := Aside0.mk hb
      have HCB := Aside0.mk hCb
      have HLE := Aside0.mk hle
      clear hb hCb hle hW
      by_cases b4 : 100 < (b.length : Int)
      · have d4 : decide (100 < (b.length : Int)) = true := decide_eq_true b4
        have d4' : decide (100 < b.length) = true := decide_eq_true (by omega)
        clear b4
        go_wp2
        go_ret
        exact ⟨rfl, HW.out.bl⟩
      have d4 : decide (100 < (b.length : Int)) = false := decide_eq_false b4
      have d4' : decide (100 < b.length) = false := decide_eq_false (by omega)
      have BL100 := Aside0.mk (show b.length ≤ 100 by omega)
      clear b4
      go_wp2_with (first
        | (go_at_call 29; refine (message_calls _ j JK.out _ _ b HCB.out HLE.out BL100.out).mono ?_; rintro e_ w1 ⟨v1, rfl, ho, hb1⟩; obtain ⟨Am, cm, em⟩ := Kd.R_slice ho; subst em; have HM := Aside0.mk ho; have HW1 := Aside0.mk (HW.out.below hb1); have SZ := Aside0.mk hb1.size; clear ho hb1)
        | ((with_reducible refine gate_builtin (b := .append) (xs := #[.tmp 53, .tmp 55]) rfl ?_); at_builtin;
           refine Kd.R_append KR (w0 := w) w.heap.size rfl (.tmp 53) (.tmp 55) 60 44 (.slice none 0 0) 24 rfl Try.underlying60 info44 rfl (by decide) (by omega) (.slice A8 ms.length c8) ms (msg j b) [.slice Am (msg j b).length cm] (fun k => some k ≠ (Value.slice A7 fl.length c7).ownBlock) (fun k => some k ≠ (Value.slice A7 fl.length c7).ownBlock ∧ some k ≠ (Value.slice A8 ms.length c8).ownBlock) rfl rfl ?aP (fun _ hk => hk) ?aF ?aO ?aB ?aS ?aL ?_;
           (case aP => exact ⟨_, rfl, Kd.R_mono (Kd.R_lower (Kd.R_bound HM.out) HW.out.bl.size) (fun k hk => ⟨fun e => by have := Kd.R_lt HW.out.ra k e.symm; have := hk.2.1; omega, fun e => by have := Kd.R_lt HW.out.rw_ k e.symm; have := hk.2.1; omega⟩)⟩);
           (case aF => exact fun k hk e => by have := Kd.R_lt HW1.out.ra k e.symm; omega); (case aO => exact HW1.out.rw_); (case aB => exact HW1.out.bl); (case aS => exact HW1.out.bl.size); (case aL => have := ML.out; omega);
           intro v2 w2 ho2 hb2 hg2 hat2; have RA2 := Aside0.mk (row_keep HW1.out.ra (fun k hk => hg2.block k (Kd.R_lt HW1.out.ra k hk) (fun e => HW1.out.rw_.1 k e.symm hk.symm)));
           have HM2 := Aside0.mk (row_keep HM.out (fun k hk => hg2.block k (Kd.R_lt HM.out k hk) (fun e => by have := Kd.R_lt HW.out.rw_ k e.symm; have := row_ge HM.out k hk; omega)));
           obtain ⟨A9, c9, e9⟩ := Kd.R_slice ho2; subst e9; have RW2 := Aside0.mk ho2; have B2 := Aside0.mk hb2; clear ho2 hb2 hg2 hat2 HM HW1)
        | ((with_reducible refine gate_builtin (b := .append) (xs := #[.tmp 57, .tmp 58]) rfl ?_); at_builtin;
           refine Kd.R_append_rows (Kd.int .u8) (w0 := w) w.heap.size rfl (.tmp 57) (.tmp 58) 44 5 (.int .u8 0) 1 rfl Try.underlying44 info5 rfl (by decide) (by omega) (.slice A7 fl.length c7) fl (msg j b) _ _ _ (fun _ => True) (fun _ => False) rfl rfl ?aO ?aR (fun _ _ h => h) (fun _ h => h.elim) ?aF ?aB ?aS ?aL ?_;
           (case aO => exact RA2.out); (case aR => exact (Kd.R_reads' HM2.out).2.2); (case aF => exact fun _ _ => trivial); (case aB => exact B2.out); (case aS => exact B2.out.size); (case aL => have := FL.out; have := BL100.out; rw [msg_len]; omega);
           intro v3 w3 ho3 hb3 hg3 hat3; have HW3 := Aside0.mk (W1.mk (ms := ms ++ [msg j b]) (Kd.R_mono (Kd.R_after (ok := fun _ => True) (Kd.R_mono RW2.out (fun _ hk => ⟨trivial, hk⟩)) hg3 hat3) (fun _ hk => hk.2)) ho3 hb3); clear ho3 hb3 hg3 hat3 RW2 B2 RA2 HM2))
      go_roundg (l0.length - (j + 1))
      case measure => omega
      case rel => exact ⟨j + 1, by omega, by omega, by rw [EW.out], by rw [MT.out, List.flatten_append, HFL.out, List.flatten_cons, List.flatten_nil, List.append_nil]; have h_ := HW3.out; rw [show (ms ++ [msg j b]).length = ms.length + 1 by simp] at h_; exact h_, ⟨fun i hi => by
        by_cases q : i = j
        · rw [q, HBE.out]; exact BL100.out
        · exact HS.out i (by omega)⟩⟩
    · have hltz : ¬ (j : Int) < (l0.length : Int) := by omega
      obtain rfl : j = l0.length := by omega
      rw [List.take_length] at hW
      have HSZ := Aside0.mk HS.out
      have FL := Aside0.mk (show (msgs 0 l0).flatten.length ≤ 832 by
        have h1 := flat_le l0 0 (fun i hi => HSZ.out i hi)
        have := LEN.out
        omega)
      have ML := Aside0.mk (show (msgs 0 l0).length = l0.length from msgs_length l0 0)
      obtain ⟨ms, hms⟩ : ∃ ms, msgs 0 l0 = ms := ⟨_, rfl⟩
      rw [hms] at hW FL ML
      obtain ⟨fl, hfl⟩ : ∃ fl, ms.flatten = fl := ⟨_, rfl⟩
      rw [hfl] at hW FL
      have HMS := Aside0.mk hms
      have HFL := Aside0.mk hfl
      clear hms hfl HS hg hj hlt
      obtain ⟨A7, c7, e7, l7, k7⟩ := Kd.R_reads hW.ra
      obtain ⟨A8, c8, e8, l8, k8⟩ := Kd.R_reads hW.rw_
      subst e7
      subst e8
      have CA := Aside0.mk k7
      have CW := Aside0.mk k8
      have LA := Aside0.mk l7
      have BL1 := Aside0.mk hW.bl
      clear hW k7 k8 l7 l8
      obtain ⟨wa, rfl⟩ : ∃ wa, wa = wr := ⟨wr, rfl⟩
      go_wp2
      clear hltz
      go_loopg [11, 12, 13, 14] l1.length (fun gg v11 v12 v13 v14 ws => ∃ (j : Nat) (fr te : List Int), j ≤ l1.length ∧ l1.length - j ≤ gg ∧ v14 = .int .i64 j ∧ v13 = .int .i64 (cov te te.length) ∧ P2 wa ws v11 v12 fr te ∧ Aside0 (Pcs fl.length fr te) ∧ Aside0 (te.length ≤ j))
      case atStart => exact ⟨0, [], [], Nat.zero_le _, by omega, rfl, rfl, P2.nil _, ⟨Pcs.nil _⟩, ⟨by simp⟩⟩
      case round =>
        obtain ⟨j, fr, te, hj, hg, rfl, rfl, hP, HPC, HTL⟩ := hrel
        obtain ⟨A11, c11, e11⟩ := Kd.R_slice hP.rf
        obtain ⟨A12, c12, e12⟩ := Kd.R_slice hP.rt
        subst e11
        subst e12
        have HP := Aside0.mk hP
        clear hP
        have hcn := cov_nonneg HPC.out te.length (Nat.le_refl _)
        obtain ⟨a, ha⟩ : ∃ a, cov te te.length = a := ⟨_, rfl⟩
        rw [ha] at hcn
        have HA := Aside0.mk ha
        rw [ha]
        have HCN := Aside0.mk hcn
        clear ha hcn
        by_cases hgo : j < l1.length ∧ a < (fl.length : Int)
        · obtain ⟨hlt, hat⟩ := hgo
          have hltz : (j : Int) < (l1.length : Int) := by omega
          have dj : decide ((j : Int) < (l1.length : Int)) = true := decide_eq_true hltz
          have da : decide (a < (fl.length : Int)) = true := decide_eq_true hat
          obtain ⟨ad, eA, hcell⟩ := Kd.at_int HR1.out (j : Int) (by omega) hltz
          rw [Int.toNat_natCast] at hcell
          subst eA
          have hcell := pw_cell_below (below_step BL1.out HP.out.bl) hcell
          have hx := bytes_rd HB1.out j hlt
          have EW := Aside0.mk (show wrap64 ((j : Int) + 1) = ((j + 1 : Nat) : Int) by have := LEN.out; unfold wrap64; omega)
          have hf := FL.out
          have hc := HCN.out
          have ex : wrap64 (rd l1 (j : Int)) = rd l1 (j : Int) := by unfold wrap64; omega
          have hE : a < (if (fl.length : Int) < wrap64 (wrap64 (a + (rd l1 (j : Int)).tmod 40) + 1) then (fl.length : Int) else wrap64 (wrap64 (a + (rd l1 (j : Int)).tmod 40) + 1)) ∧ (if (fl.length : Int) < wrap64 (wrap64 (a + (rd l1 (j : Int)).tmod 40) + 1) then (fl.length : Int) else wrap64 (wrap64 (a + (rd l1 (j : Int)).tmod 40) + 1)) ≤ fl.length := by
            obtain ⟨y, hy⟩ : ∃ y, (rd l1 (j : Int)).tmod 40 = y := ⟨_, rfl⟩
            have hy' : 0 ≤ y ∧ y < 40 := by rw [← hy, Int.tmod_eq_emod_of_nonneg hx.1]; omega
            rw [hy]
            have e2 : wrap64 (wrap64 (a + y) + 1) = a + y + 1 := by unfold wrap64; omega
            rw [e2]
            split <;> omega
          have PN := Aside0.mk (show Pcs fl.length (fr ++ [a]) (te ++ [(if (fl.length : Int) < wrap64 (wrap64 (a + (rd l1 (j : Int)).tmod 40) + 1) then (fl.length : Int) else wrap64 (wrap64 (a + (rd l1 (j : Int)).tmod 40) + 1))]) from by have h_ := HPC.out.snoc (e := (if (fl.length : Int) < wrap64 (wrap64 (a + (rd l1 (j : Int)).tmod 40) + 1) then (fl.length : Int) else wrap64 (wrap64 (a + (rd l1 (j : Int)).tmod 40) + 1))) (by rw [HA.out]; exact hE.1) hE.2; rw [HA.out] at h_; exact h_)
          clear hf hc hx hat hE
          go_wp2_with (first
            | ((with_reducible refine gate_builtin (b := .append) (xs := #[.tmp 84, .tmp 86]) rfl ?_); at_builtin; refine Kd.R_append (Kd.int .i64) (w0 := wa) wa.heap.size rfl (.tmp 84) (.tmp 86) 22 3 (.int .i64 0) 8 rfl Try.underlying22 Rst.info3 rfl (by decide) (by omega) (.slice A11 fr.length c11) fr a [.int .i64 a] (fun _ => True) (fun _ => False) rfl rfl rfl (fun _ hk => hk.elim) (fun _ _ => trivial) HP.out.rf HP.out.bl HP.out.bl.size (by have := HTL.out; have := HPC.out.1; have := LEN.out; omega) ?_; intro v2 w2 ho2 hb2 hg2 hat2; obtain ⟨A13, c13, e13⟩ := Kd.R_slice ho2; rw [show (fr ++ [a]).length = fr.length + 1 by simp] at e13; subst e13; have HP2 := Aside0.mk (HP.out.appF ho2 hb2 hg2 hat2); clear ho2 hb2 hg2 hat2)
            | ((with_reducible refine gate_builtin (b := .append) (xs := #[.tmp 88, .tmp 90]) rfl ?_); at_builtin; refine Kd.R_append (Kd.int .i64) (w0 := wa) wa.heap.size rfl (.tmp 88) (.tmp 90) 22 3 (.int .i64 0) 8 rfl Try.underlying22 Rst.info3 rfl (by decide) (by omega) (.slice A12 te.length c12) te ((if (fl.length : Int) < wrap64 (wrap64 (a + (rd l1 (j : Int)).tmod 40) + 1) then (fl.length : Int) else wrap64 (wrap64 (a + (rd l1 (j : Int)).tmod 40) + 1))) [.int .i64 ((if (fl.length : Int) < wrap64 (wrap64 (a + (rd l1 (j : Int)).tmod 40) + 1) then (fl.length : Int) else wrap64 (wrap64 (a + (rd l1 (j : Int)).tmod 40) + 1)))] (fun _ => True) (fun _ => False) rfl rfl rfl (fun _ hk => hk.elim) (fun _ _ => trivial) HP2.out.rt HP2.out.bl HP2.out.bl.size (by have := HTL.out; have := LEN.out; omega) ?_; intro v3 w3 ho3 hb3 hg3 hat3; obtain ⟨A14, c14, e14⟩ := Kd.R_slice ho3; rw [show (te ++ [(if (fl.length : Int) < wrap64 (wrap64 (a + (rd l1 (j : Int)).tmod 40) + 1) then (fl.length : Int) else wrap64 (wrap64 (a + (rd l1 (j : Int)).tmod 40) + 1))]).length = te.length + 1 by simp] at e14; subst e14; have HP3 := Aside0.mk (HP2.out.appT ho3 hb3 hg3 hat3); clear ho3 hb3 hg3 hat3 HP2))
          all_goals
            go_roundg (l1.length - (j + 1))
            case measure => omega
            case rel => exact ⟨j + 1, fr ++ [a], te ++ [(if (fl.length : Int) < wrap64 (wrap64 (a + (rd l1 (j : Int)).tmod 40) + 1) then (fl.length : Int) else wrap64 (wrap64 (a + (rd l1 (j : Int)).tmod 40) + 1))], by omega, by omega, by rw [EW.out], by rw [cov_last]; first | rfl | (split <;> first | rfl | (exfalso; omega)), by have h_ := HP3.out; simpa only [List.length_append, List.length_cons, List.length_nil] using h_, ⟨PN.out⟩, ⟨by have := HTL.out; simp; omega⟩⟩
        · have hac := HCN.out
          rcases (by omega : (a < (fl.length : Int) ∧ ¬ j < l1.length) ∨ (¬ a < (fl.length : Int) ∧ j < l1.length) ∨ (¬ a < (fl.length : Int) ∧ ¬ j < l1.length)) with ⟨haf, hjn⟩ | ⟨haf, hjn⟩ | ⟨haf, hjn⟩
          case' inl =>
            have dj : decide ((j : Int) < (l1.length : Int)) = false := decide_eq_false (by omega)
            have hltz : ¬ (j : Int) < (l1.length : Int) := by omega
            have da : decide (a < (fl.length : Int)) = true := decide_eq_true haf
            have PCX := Aside0.mk (show Pcs fl.length (fr ++ [a]) (te ++ [(fl.length : Int)]) from by have h_ := HPC.out.snoc (e := (fl.length : Int)) (by rw [HA.out]; exact haf) (Int.le_refl _); rw [HA.out] at h_; exact h_)
            have COV := Aside0.mk (cov_last te (fl.length : Int))
            have NT := Aside0.mk (show (te ++ [(fl.length : Int)]).length ≤ 101 by have := HTL.out; have := LEN.out; simp; omega)
            clear hac hgo
            go_wp2_with (first
              | ((with_reducible refine gate_builtin (b := .append) (xs := #[.tmp 97, .tmp 99]) rfl ?_); at_builtin; refine Kd.R_append (Kd.int .i64) (w0 := wa) wa.heap.size rfl (.tmp 97) (.tmp 99) 22 3 (.int .i64 0) 8 rfl Try.underlying22 Rst.info3 rfl (by decide) (by omega) (.slice A11 fr.length c11) fr a [.int .i64 a] (fun _ => True) (fun _ => False) rfl rfl rfl (fun _ hk => hk.elim) (fun _ _ => trivial) HP.out.rf HP.out.bl HP.out.bl.size (by have := HTL.out; have := HPC.out.1; have := LEN.out; omega) ?_; intro v2 w2 ho2 hb2 hg2 hat2; obtain ⟨A13, c13, e13⟩ := Kd.R_slice ho2; rw [show (fr ++ [a]).length = fr.length + 1 by simp] at e13; subst e13; have HP2 := Aside0.mk (HP.out.appF ho2 hb2 hg2 hat2); clear ho2 hb2 hg2 hat2)
              | ((with_reducible refine gate_builtin (b := .append) (xs := #[.tmp 101, .tmp 104]) rfl ?_); at_builtin; refine Kd.R_append (Kd.int .i64) (w0 := wa) wa.heap.size rfl (.tmp 101) (.tmp 104) 22 3 (.int .i64 0) 8 rfl Try.underlying22 Rst.info3 rfl (by decide) (by omega) (.slice A12 te.length c12) te ((fl.length : Int)) [.int .i64 ((fl.length : Int))] (fun _ => True) (fun _ => False) rfl rfl rfl (fun _ hk => hk.elim) (fun _ _ => trivial) HP2.out.rt HP2.out.bl HP2.out.bl.size (by have := HTL.out; have := LEN.out; omega) ?_; intro v3 w3 ho3 hb3 hg3 hat3; obtain ⟨A14, c14, e14⟩ := Kd.R_slice ho3; rw [show (te ++ [(fl.length : Int)]).length = te.length + 1 by simp] at e14; subst e14; have HP3 := Aside0.mk (HP2.out.appT ho3 hb3 hg3 hat3); clear ho3 hb3 hg3 hat3 HP2))
            have PX := HP3
            have HNF := Aside0.mk (show (fr ++ [a]).length = fr.length + 1 by simp)
            have HNT := Aside0.mk (show (te ++ [(fl.length : Int)]).length = te.length + 1 by simp)
            clear HP HPC HTL HCN HA HP3 dj da haf hjn hltz
            obtain ⟨fr2, hfr2⟩ : ∃ x, fr ++ [a] = x := ⟨_, rfl⟩
            obtain ⟨te2, hte2⟩ : ∃ x, te ++ [(fl.length : Int)] = x := ⟨_, rfl⟩
            rw [hfr2] at PX HNF PCX
            rw [hte2] at PX HNT PCX COV NT
            clear hfr2 hte2
            generalize fr.length + 1 = nf at *
            generalize te.length + 1 = nt at *
          case' inr.inl =>
            have dj : decide ((j : Int) < (l1.length : Int)) = true := decide_eq_true (by omega)
            have hltz : (j : Int) < (l1.length : Int) := by omega
            have da : decide (a < (fl.length : Int)) = false := decide_eq_false haf
            clear hac hgo
            go_wp2
            clear dj hltz da hjn
            obtain ⟨A13, rfl⟩ : ∃ x, x = A11 := ⟨A11, rfl⟩
            obtain ⟨c13, rfl⟩ : ∃ x, x = c11 := ⟨c11, rfl⟩
            obtain ⟨A14, rfl⟩ : ∃ x, x = A12 := ⟨A12, rfl⟩
            obtain ⟨c14, rfl⟩ : ∃ x, x = c12 := ⟨c12, rfl⟩
            obtain ⟨fr2, rfl⟩ : ∃ x, x = fr := ⟨fr, rfl⟩
            obtain ⟨te2, rfl⟩ : ∃ x, x = te := ⟨te, rfl⟩
            obtain ⟨w3, rfl⟩ : ∃ x, x = wr := ⟨wr, rfl⟩
            have PCX := Aside0.mk HPC.out
            have COV := Aside0.mk (show cov te2 te2.length = (fl.length : Int) by rw [HA.out]; have := HCN.out; omega)
            have NT := Aside0.mk (show te2.length ≤ 101 by have := HTL.out; have := LEN.out; omega)
            have PX := HP
            clear HP HPC HTL HCN HA
            obtain ⟨nf, hnf⟩ : ∃ n_, fr2.length = n_ := ⟨_, rfl⟩
            rw [hnf] at PX ⊢
            obtain ⟨nt, hnt⟩ : ∃ n_, te2.length = n_ := ⟨_, rfl⟩
            rw [hnt] at PX ⊢
            have HNF := Aside0.mk hnf
            have HNT := Aside0.mk hnt
            clear hnf hnt
            clear haf
          case' inr.inr =>
            have dj : decide ((j : Int) < (l1.length : Int)) = false := decide_eq_false (by omega)
            have hltz : ¬ (j : Int) < (l1.length : Int) := by omega
            have da : decide (a < (fl.length : Int)) = false := decide_eq_false haf
            clear hac hgo
            go_wp2
            clear dj hltz da hjn
            obtain ⟨A13, rfl⟩ : ∃ x, x = A11 := ⟨A11, rfl⟩
            obtain ⟨c13, rfl⟩ : ∃ x, x = c11 := ⟨c11, rfl⟩
            obtain ⟨A14, rfl⟩ : ∃ x, x = A12 := ⟨A12, rfl⟩
            obtain ⟨c14, rfl⟩ : ∃ x, x = c12 := ⟨c12, rfl⟩
            obtain ⟨fr2, rfl⟩ : ∃ x, x = fr := ⟨fr, rfl⟩
            obtain ⟨te2, rfl⟩ : ∃ x, x = te := ⟨te, rfl⟩
            obtain ⟨w3, rfl⟩ : ∃ x, x = wr := ⟨wr, rfl⟩
            have PCX := Aside0.mk HPC.out
            have COV := Aside0.mk (show cov te2 te2.length = (fl.length : Int) by rw [HA.out]; have := HCN.out; omega)
            have NT := Aside0.mk (show te2.length ≤ 101 by have := HTL.out; have := LEN.out; omega)
            have PX := HP
            clear HP HPC HTL HCN HA
            obtain ⟨nf, hnf⟩ : ∃ n_, fr2.length = n_ := ⟨_, rfl⟩
            rw [hnf] at PX ⊢
            obtain ⟨nt, hnt⟩ : ∃ n_, te2.length = n_ := ⟨_, rfl⟩
            rw [hnt] at PX ⊢
            have HNF := Aside0.mk hnf
            have HNT := Aside0.mk hnt
            clear hnf hnt
            clear haf
          all_goals
            have T0 := Aside0.mk (Tr.new w3)
            generalize hwb : w3.alloc (.cells #[.int .i64 0, .map none] 42) = wb at T0 ⊢
            generalize hsb : w3.heap.size = sb at T0 ⊢
            have MM := Aside0.mk (Msgs.mk HMS.out HFL.out HSZ.out LEN.out.1 FL.out (by rw [← HFL.out, ← HMS.out]; exact msgs_bytes l0 0 (by have := LEN.out; omega) HSZ.out HB0.out))
            have SP := Aside0.mk (hsb ▸ PX.out.bl.size)
            obtain rfl : nf = nt := by have h1 := PCX.out.1; have h2 := HNF.out; have h3 := HNT.out; omega
            have EL := Aside0.mk (show wrap64 ((l2.length : Int) + (nf : Int)) = ((l2.length + nf : Nat) : Int) by have := LEN.out; have := NT.out; have := HNT.out; unfold wrap64; omega)
            have ES0 := Aside0.mk (Sd.start ms fl)
            clear hwb HMS HFL HSZ ML HB0 HB1 HR0 HR1
            go_loopg [17, 18] (l2.length + nf) (fun gg v17 v18 ws => ∃ (i k n t : Nat) (m : Option Nat) (F : Stm.Fn), i ≤ l2.length + nf ∧ l2.length + nf - i ≤ gg ∧ v18 = .int .i64 i ∧ v17 = .int .i64 k ∧ Tr w3 ws sb m t F n ∧ Aside0 (Sd ms fl F t k (cov te2 (i - l2.length))) ∧ Aside0 ((nextR F t).2 ≠ 0) ∧ Aside0 (n ≤ 1000 * i))
            case atStart => exact ⟨0, 0, 0, 0, none, Stm.F0, Nat.zero_le _, by omega, rfl, rfl, T0.out, ⟨by rw [Nat.zero_sub]; exact ES0.out⟩, ⟨by decide⟩, ⟨by omega⟩⟩
            case round =>
              obtain ⟨i, k, n, t, m, F, hi, hg, rfl, rfl, hT, HS, HZ, HN⟩ := hrel
              have TT := Aside0.mk hT
              clear hT T0 ES0
              obtain ⟨w4, rfl⟩ : ∃ x, x = wr := ⟨wr, rfl⟩
              by_cases hlt : i < l2.length + nf
              · have HLT := Aside0.mk hlt
                have dlt : decide ((i : Int) < wrap64 ((l2.length : Int) + (nf : Int))) = true := decide_eq_true (by rw [EL.out]; omega)
                have EI := Aside0.mk (show wrap64 ((i : Int) + 1) = ((i + 1 : Nat) : Int) by have := LEN.out; have := NT.out; have := HNT.out; unfold wrap64; omega)
                obtain ⟨A13', c13', e13', l13', k13'⟩ := Kd.R_reads PX.out.rf
                obtain ⟨A14', c14', e14', l14', k14'⟩ := Kd.R_reads PX.out.rt
                injection e13' with e1 e2 e3
                subst e1
                injection e14' with f1 f2 f3
                subst f1
                have K13 := Aside0.mk k13'
                have K14 := Aside0.mk k14'
                clear k13' k14' l13' l14' e2 e3 f2 f3
                by_cases hin : i < l2.length
                case' neg =>
                  have din : decide ((i : Int) < (l2.length : Int)) = false := decide_eq_false (by omega)
                  obtain ⟨qn, hqn⟩ : ∃ qn : Nat, i - l2.length = qn := ⟨_, rfl⟩
                  have EQ : wrap64 ((i : Int) - (l2.length : Int)) = (qn : Int) := by have := LEN.out; have := NT.out; have := HNT.out; unfold wrap64; omega
                  have HQ : qn < nf := by omega
                  have HCV := Aside0.mk (show cov te2 (i + 1 - l2.length) ≤ 0 ∨ (rd fr2 (qn : Int) = cov te2 (i - l2.length) ∧ cov te2 (i + 1 - l2.length) = rd te2 (qn : Int)) from Or.inr (by rw [hqn, show i + 1 - l2.length = qn + 1 by omega, cov_succ]; exact ⟨(PCX.out.2 qn (by have := HNT.out; omega)).1, rfl⟩))
                  go_wp2
                  rw [EQ]
                  clear din hqn EQ dlt hi hin hlt
                case' pos =>
                  have din : decide ((i : Int) < (l2.length : Int)) = true := decide_eq_true (by omega)
                  by_cases hn0 : nf = 0
                  · have dn : ((nf : Int) == 0) = true := by rw [hn0]; rfl
                    clear hn0
                    have HZ2 := Aside0.mk (show i + 1 - l2.length = i - l2.length by omega)
                    have hltz : (i : Int) < (l2.length : Int) := by omega
                    go_wp2
                    clear dn din dlt
                    go_roundg (l2.length + nf - (i + 1))
                    case measure => have := HLT.out; omega
                    case rel => exact ⟨i + 1, k, n, t, m, F, by have := HLT.out; omega, Nat.le_refl _, by rw [EI.out], rfl, TT.out, ⟨by rw [HZ2.out]; exact HS.out⟩, HZ, ⟨by have := HN.out; omega⟩⟩
                  have dn : ((nf : Int) == 0) = false := beq_eq_false_iff_ne.mpr (by omega)
                  have hnz : ¬ (nf : Int) = 0 := by omega
                  have hltz : (i : Int) < (l2.length : Int) := by omega
                  obtain ⟨ad, eA, hcell⟩ := Kd.at_int HR2.out (i : Int) (by omega) hltz
                  rw [Int.toNat_natCast] at hcell
                  subst eA
                  have hcell := pw_cell_below (below_step (below_step BL1.out PX.out.bl) TT.out.bl) hcell
                  have hx := bytes_rd HB2.out i hin
                  obtain ⟨qn, hqn⟩ : ∃ qn : Nat, (rd l2 (i : Int)).tmod (nf : Int) = (qn : Int) := ⟨((rd l2 (i : Int)).tmod (nf : Int)).toNat, by rw [Int.tmod_eq_emod_of_nonneg hx.1]; have := Int.emod_nonneg (rd l2 (i : Int)) hnz; omega⟩
                  have HQ : qn < nf := by
                    rw [Int.tmod_eq_emod_of_nonneg hx.1] at hqn
                    have := Int.emod_lt_of_pos (rd l2 (i : Int)) (show (0 : Int) < (nf : Int) by omega)
                    omega
                  have HCV := Aside0.mk (show cov te2 (i + 1 - l2.length) ≤ 0 ∨ (rd fr2 (qn : Int) = cov te2 (i - l2.length) ∧ cov te2 (i + 1 - l2.length) = rd te2 (qn : Int)) from Or.inl (by rw [show i + 1 - l2.length = 0 by omega]; simp [cov]))
                  go_wp2
                  try rw [hqn]
                  clear din hqn dlt hi hin hlt dn hnz hltz hcell hx hn0
                all_goals
                  obtain ⟨ad13, e13, cl13⟩ := Kd.at_int K13.out (qn : Int) (by omega) (by have := HNF.out; omega)
                  obtain ⟨ad14, e14, cl14⟩ := Kd.at_int K14.out (qn : Int) (by omega) (by have := HNT.out; omega)
                  subst e13
                  subst e14
                  rw [Int.toNat_natCast] at cl13 cl14
                  have hp1 := PCX.out.2 qn (by have := HNT.out; omega)
                  have hp2 := cov_nonneg PCX.out qn (by have := HNT.out; omega)
                  obtain ⟨p, hp⟩ : ∃ p : Nat, rd fr2 (qn : Int) = (p : Int) := ⟨(rd fr2 (qn : Int)).toNat, by omega⟩
                  obtain ⟨q, hq⟩ : ∃ q : Nat, rd te2 (qn : Int) = (q : Int) := ⟨(rd te2 (qn : Int)).toNat, by omega⟩
                  have HPQ : p < q ∧ q ≤ fl.length := by omega
                  rw [hp, hq] at HCV
                  rw [hp] at cl13
                  rw [hq] at cl14
                  have c13w := cl13
                  have c14w := cl14
                  have C13 := Aside0.mk (pw_cell_below (TT.out.bl.drew) cl13)
                  have C14 := Aside0.mk (pw_cell_below (TT.out.bl.drew) cl14)
                  clear hp1 hp2 hp hq cl13 cl14
                  obtain ⟨i014, hi014, _, hsz14, _⟩ := info_parts info5
                  obtain ⟨A15, hcut15, hA15, hC15⟩ := print_mid_of (P := Try.prog) (Value.int .u8) 0 44 5 .i64 .i64 Try.underlying44 hi014 hsz14 A7 c7 fl (p : Int) (q : Int) (by omega) (by omega) (by omega) LA.out
                  have CP := Aside0.mk (Kd.C_of_reads (h1 := fun _ => rfl) (hA15 _ (Kd.reads_of_C CA.out)))
                  clear hA15 hC15 hi014 hsz14
                  rw [Int.toNat_natCast, Int.toNat_natCast] at hcut15 CP
                  have PLN := Aside0.mk (piece_len fl p q HPQ.2)
                  have PBY := Aside0.mk (piece_bytes MM.out.by_ p q)
                  have PUT := Aside0.mk (Sd.put MM.out HS.out HPQ.2 (Nat.le_of_lt HPQ.1) _ HCV.out)
                  obtain ⟨d, hd⟩ : ∃ d, List.drop p (List.take q fl) = d := ⟨_, rfl⟩
                  have hd' : piece fl p q = d := hd
                  rw [hd] at hcut15 CP
                  rw [hd'] at PLN PBY PUT
                  clear hd hd' HCV HZ
                  have TLE := Aside0.mk (HS.out.off_le MM.out)
                  clear HS
                  have CP3 := Aside0.mk (Kd.C_below CP.out PX.out.bl)
                  have k13 := C13.out
                  have k14 := C14.out
                  refine start_ (n := 17) (S := fun w' => w'.cell? (ad13.add qn) = some (.int .i64 (p : Int)) ∧ w'.cell? (ad14.add qn) = some (.int .i64 (q : Int))) (ds := []) #[false, false, false, false, false, false, false, false, false, false, false, false, false, false, false, false, false] (by kernel_rfl) rfl rfl ⟨k13, k14⟩ (fun hHeld => ?_)
                  refine pure_ (i := 0) (N := some 136) (v := ?_) (a' := ?_) #[true, false, false, false, false, false, false, false, false, false, false, false, false, false, false, false, false] rfl rfl (by kernel_rfl) (fun _ _ _ h => h) (Or.inl ⟨by rfl, ?_⟩) ?_ ?_
                  rotate_left
                  · intro w'
                    go_simp
                    with_reducible rfl
                  rotate_left
                  · simp only [Act.put, List.setIfInBounds_toArray, List.set_cons_zero, List.set_cons_succ, i64_w, i32_w]
                    rfl
                  refine pure_ (i := 1) (N := some 137) (v := ?_) (a' := ?_) #[true, true, false, false, false, false, false, false, false, false, false, false, false, false, false, false, false] rfl rfl (by kernel_rfl) (fun _ _ _ h => h) (Or.inl ⟨by rfl, ?_⟩) ?_ ?_
                  rotate_left
                  · intro w'
                    go_simp
                    with_reducible rfl
                  rotate_left
                  · simp only [Act.put, List.setIfInBounds_toArray, List.set_cons_zero, List.set_cons_succ, i64_w, i32_w]
                    rfl
                  refine pure_ (i := 2) (N := some 138) (v := ?_) (a' := ?_) #[true, true, true, false, false, false, false, false, false, false, false, false, false, false, false, false, false] rfl rfl (by kernel_rfl) (fun _ _ _ h => h) (Or.inl ⟨by rfl, ?_⟩) ?_ ?_
                  rotate_left
                  · intro w'
                    go_simp
                    with_reducible rfl
                  rotate_left
                  · simp only [Act.put, List.setIfInBounds_toArray, List.set_cons_zero, List.set_cons_succ, i64_w, i32_w]
                    rfl
                  refine pure_ (i := 3) (N := some 139) (v := ?_) (a' := ?_) #[true, true, true, true, false, false, false, false, false, false, false, false, false, false, false, false, false] rfl rfl (by kernel_rfl) (fun _ _ _ h => h) (Or.inl ⟨by rfl, ?_⟩) ?_ ?_
                  rotate_left
                  · intro w'
                    go_simp
                    with_reducible rfl
                  rotate_left
                  · simp only [Act.put, List.setIfInBounds_toArray, List.set_cons_zero, List.set_cons_succ, i64_w, i32_w]
                    rfl
                  refine take_ (i := 4) (N := some 140) (v := ?_) (a' := ?_) #[true, true, true, true, true, false, false, false, false, false, false, false, false, false, false, false, false] rfl rfl (by kernel_rfl) (fun _ _ _ h => h) (Or.inl ⟨by rfl, ?_⟩) hHeld ?_ ?_
                  rotate_left
                  · rintro w' ⟨s1, s2⟩
                    go_simp
                    with_reducible rfl
                  rotate_left
                  · simp only [Act.put, List.setIfInBounds_toArray, List.set_cons_zero, List.set_cons_succ, i64_w, i32_w]
                    rfl
                  refine pure_ (i := 5) (N := some 141) (v := ?_) (a' := ?_) #[true, true, true, true, true, true, false, false, false, false, false, false, false, false, false, false, false] rfl rfl (by kernel_rfl) (fun _ _ _ h => h) (Or.inl ⟨by rfl, ?_⟩) ?_ ?_
                  rotate_left
                  · intro w'
                    go_simp
                    with_reducible rfl
                  rotate_left
                  · simp only [Act.put, List.setIfInBounds_toArray, List.set_cons_zero, List.set_cons_succ, i64_w, i32_w]
                    rfl
                  refine pure_ (i := 6) (N := some 142) (v := ?_) (a' := ?_) #[true, true, true, true, true, true, true, false, false, false, false, false, false, false, false, false, false] rfl rfl (by kernel_rfl) (fun _ _ _ h => h) (Or.inl ⟨by rfl, ?_⟩) ?_ ?_
                  rotate_left
                  · intro w'
                    go_simp
                    with_reducible rfl
                  rotate_left
                  · simp only [Act.put, List.setIfInBounds_toArray, List.set_cons_zero, List.set_cons_succ, i64_w, i32_w]
                    rfl
                  refine pure_ (i := 7) (N := some 143) (v := ?_) (a' := ?_) #[true, true, true, true, true, true, true, true, false, false, false, false, false, false, false, false, false] rfl rfl (by kernel_rfl) (fun _ _ _ h => h) (Or.inl ⟨by rfl, ?_⟩) ?_ ?_
                  rotate_left
                  · intro w'
                    go_simp
                    with_reducible rfl
                  rotate_left
                  · simp only [Act.put, List.setIfInBounds_toArray, List.set_cons_zero, List.set_cons_succ, i64_w, i32_w]
                    rfl
                  refine pure_ (i := 8) (N := some 144) (v := ?_) (a' := ?_) #[true, true, true, true, true, true, true, true, true, false, false, false, false, false, false, false, false] rfl rfl (by kernel_rfl) (fun _ _ _ h => h) (Or.inl ⟨by rfl, ?_⟩) ?_ ?_
                  rotate_left
                  · intro w'
                    go_simp
                    with_reducible rfl
                  rotate_left
                  · simp only [Act.put, List.setIfInBounds_toArray, List.set_cons_zero, List.set_cons_succ, i64_w, i32_w]
                    rfl
                  refine take_ (i := 9) (N := some 145) (v := ?_) (a' := ?_) #[true, true, true, true, true, true, true, true, true, true, false, false, false, false, false, false, false] rfl rfl (by kernel_rfl) (fun _ _ _ h => h) (Or.inl ⟨by rfl, ?_⟩) hHeld ?_ ?_
                  rotate_left
                  · rintro w' ⟨s1, s2⟩
                    go_simp
                    with_reducible rfl
                  rotate_left
                  · simp only [Act.put, List.setIfInBounds_toArray, List.set_cons_zero, List.set_cons_succ, i64_w, i32_w]
                    rfl
                  refine pure_ (i := 10) (N := some 146) (v := ?_) (a' := ?_) #[true, true, true, true, true, true, true, true, true, true, true, false, false, false, false, false, false] rfl rfl (by kernel_rfl) (fun _ _ _ h => h) (Or.inl ⟨by rfl, ?_⟩) ?_ ?_
                  rotate_left
                  · intro w'
                    go_simp
                    with_reducible rfl
                  rotate_left
                  · simp only [Act.put, List.setIfInBounds_toArray, List.set_cons_zero, List.set_cons_succ, i64_w, i32_w]
                    rfl
                  refine pure_ (i := 11) (N := some 147) (v := ?_) (a' := ?_) #[true, true, true, true, true, true, true, true, true, true, true, true, false, false, false, false, false] rfl rfl (by kernel_rfl) (fun _ _ _ h => h) (Or.inl ⟨by rfl, ?_⟩) ?_ ?_
                  rotate_left
                  · intro w'
                    go_simp
                    with_reducible rfl
                  rotate_left
                  · simp only [Act.put, List.setIfInBounds_toArray, List.set_cons_zero, List.set_cons_succ, i64_w, i32_w]
                    rfl
                  refine pure_ (i := 12) (N := some 148) (v := ?_) (a' := ?_) #[true, true, true, true, true, true, true, true, true, true, true, true, true, false, false, false, false] rfl rfl (by kernel_rfl) (fun _ _ _ h => h) (Or.inl ⟨by rfl, ?_⟩) ?_ ?_
                  rotate_left
                  · intro w'
                    go_simp
                    with_reducible rfl
                  rotate_left
                  · simp only [Act.put, List.setIfInBounds_toArray, List.set_cons_zero, List.set_cons_succ, i64_w, i32_w]
                    rfl
                  refine take_ (i := 13) (N := some 149) (v := ?_) (a' := ?_) #[true, true, true, true, true, true, true, true, true, true, true, true, true, true, false, false, false] rfl rfl (by kernel_rfl) (fun _ _ _ h => h) (Or.inl ⟨by rfl, ?_⟩) hHeld ?_ ?_
                  rotate_left
                  · rintro w' ⟨s1, s2⟩
                    go_simp
                    with_reducible rfl
                  rotate_left
                  · simp only [Act.put, List.setIfInBounds_toArray, List.set_cons_zero, List.set_cons_succ, i64_w, i32_w]
                    rfl
                  refine pure_ (i := 14) (N := some 150) (v := ?_) (a' := ?_) #[true, true, true, true, true, true, true, true, true, true, true, true, true, true, true, false, false] rfl rfl (by kernel_rfl) (fun _ _ _ h => h) (Or.inl ⟨by rfl, ?_⟩) ?_ ?_
                  rotate_left
                  · intro w'
                    go_simp
                    with_reducible rfl
                  rotate_left
                  · simp only [Act.put, List.setIfInBounds_toArray, List.set_cons_zero, List.set_cons_succ, i64_w, i32_w]
                    rfl
                  clear hHeld k13 k14
                  have TD := Aside0.mk (TT.out.below (Below.refl _ _).drew)
                  clear TT
                  generalize w4.drew = wd at TD ⊢
                  have CD := Aside0.mk (Kd.C_below CP3.out TD.out.bl)
                  refine one_ (i := 15) (N := some 151) #[true, true, true, true, true, true, true, true, true, true, true, true, true, true, true, true, false] rfl rfl (by kernel_rfl) (by decide) (fun K hK => ?_)
                  refine goes_ Try.func25 (by kernel_rfl) rfl #[.pointer (some ⟨sb, 0, none⟩), .int .i64 (p : Int), .slice A15 d.length (c7 - p)] (by rfl) rfl rfl (by (try simp only [List.map_toArray, List.map_cons, List.map_nil]); first | done | rfl) ?_
                  refine (put_calls TD.out.st A15 (c7 - p) d (p : Int) CD.out (by omega) (by have := TLE.out; omega) (by have := PLN.out; have := FL.out; omega) PBY.out (fun ad_ e_ q_ => ?sep) (by have := HN.out; have := PLN.out; have := FL.out; have := LEN.out; have := NT.out; have := HNT.out; have := HLT.out; omega)).mono ?_
                  case sep => (have hlt_ := c_lt CP3.out (by have := PLN.out; omega) ad_ e_; rcases q_ with q_ | q_; (have := TD.out.lo; omega); (have := TD.out.mo _ q_.symm; omega))
                  rintro e_ w5 ⟨rfl, hA⟩
                  rw [PUT.out.1]
                  obtain ⟨m5, hT5⟩ := TD.out.after hA
                  have T5 := Aside0.mk hT5
                  refine ⟨_, rfl, ?_⟩
                  clear hA hT5 CD TD
                  refine hK.out _ _ ⟨pw_cell_below T5.out.bl c13w, pw_cell_below T5.out.bl c14w⟩ (fun hHeld => ?_)
                  clear hK K
                  refine norm_ (a' := ?_) ?_ ?_
                  rotate_left
                  · show Act.put _ (some 151) _ = _
                    simp only [Act.put, List.setIfInBounds_toArray, List.set_cons_zero, List.set_cons_succ, i64_w, i32_w]
                    rfl
                  refine pure_ (i := 16) (N := some 152) (v := ?_) (a' := ?_) #[true, true, true, true, true, true, true, true, true, true, true, true, true, true, true, true, true] rfl rfl (by kernel_rfl) (fun _ _ _ h => h) (Or.inl ⟨by rfl, ?_⟩) ?_ ?_
                  rotate_left
                  · intro w'
                    go_simp
                    with_reducible rfl
                  rotate_left
                  · simp only [Act.put, List.setIfInBounds_toArray, List.set_cons_zero, List.set_cons_succ, i64_w, i32_w]
                    rfl
                  refine done_ (by kernel_rfl) ?_
                  have HS5 := Aside0.mk PUT.out.2
                  have NB := Aside0.mk (show n + d.length ≤ 1000 * (i + 1) by have := HN.out; have := PLN.out; have := FL.out; omega)
                  obtain ⟨F5, hF5⟩ : ∃ F5, putF F (t : Int) (p : Int) d = F5 := ⟨_, rfl⟩
                  obtain ⟨n5, hn5⟩ : ∃ n5, n + d.length = n5 := ⟨_, rfl⟩
                  obtain ⟨H5, hH5⟩ : ∃ H5, cov te2 (i + 1 - l2.length) = H5 := ⟨_, rfl⟩
                  rw [hF5, hH5] at HS5
                  rw [hF5, hn5] at T5
                  rw [hn5] at NB
                  have HH5 := Aside0.mk hH5
                  have H22 := next_calls T5.out.st (agree_FB HS5.out.ag MM.out.by_) (by omega) (by have := TLE.out; omega)
                  clear hF5 hn5 hH5 PUT HN PLN PBY CP CP3 C13 C14 c13w c14w hcut15 hHeld K13 K14 HPQ
                  go_wp2_with (go_at_call 22; refine H22.mono ?_; clear H22; unfold NextPost; rintro e_ w6 ⟨v1, rfl, ho1, hs1, hon1⟩; obtain ⟨m6, hT6⟩ := T5.out.after ⟨m5, hs1, Or.inl rfl, hon1⟩; obtain ⟨A6, c6, e6, l6, k6⟩ := Kd.R_reads ho1; subst e6; have T6 := Aside0.mk hT6; have K6 := Aside0.mk k6; have L6 := Aside0.mk l6; clear ho1 hs1 hon1 hT6 k6 l6)
                  go_loopg [17, 20, 21] (ms.length - k) (fun gg v17 v20 v21 ws => ∃ (k t : Nat) (m : Option Nat) (F : Stm.Fn) (A : Option Addr) (c : Nat), ms.length - k ≤ gg ∧ v17 = .int .i64 k ∧ v20 = .slice A (nextR F t).1.length c ∧ v21 = .int .i64 (nextR F t).2 ∧ Aside0 (Tr w3 ws sb m (t + ((nextR F t).1.length : Nat)) (cut F t (nextR F t).1.length) n5) ∧ Aside0 ((Kd.int .u8).C ws A (nextR F t).1.length (nextR F t).1) ∧ Aside0 ((nextR F t).1.length ≤ c) ∧ Aside0 (Sd ms fl F t k H5))
                  case atStart => exact ⟨k, t, m6, F5, A6, c6, Nat.le_refl _, rfl, rfl, rfl, T6, K6, L6, HS5⟩
                  case round =>
                    obtain ⟨k', t', m', F', A', c', hg7, rfl, rfl, rfl, T7, K7, L7, HS7⟩ := hrel
                    clear T5 T6 K6 L6 HS5 TLE
                    obtain ⟨w7, rfl⟩ : ∃ x, x = wr := ⟨wr, rfl⟩
                    by_cases h0 : (nextR F' t').2 = 0
                    · obtain ⟨hlt7, hget, hl104, hS8⟩ := HS7.out.next MM.out h0
                      obtain ⟨adw, Ab, cb, eA, hcell, hle, hCb⟩ := Gw.at_rows CW.out k' hlt7
                      subst eA
                      rw [hget] at hcell hle hCb
                      rw [h0]
                      have hcell := pw_cell_below (below_step PX.out.bl T7.out.bl) hcell
                      have CB := Aside0.mk (Kd.C_below hCb (below_step PX.out.bl T7.out.bl))
                      have LB := Aside0.mk hle
                      have hltz : (k' : Int) < (ms.length : Int) := by omega
                      have dk : decide ((ms.length : Int) ≤ (k' : Int)) = false := decide_eq_false (by omega)
                      have dk' : decide (ms.length ≤ k') = false := decide_eq_false (by omega)
                      have EK := Aside0.mk (show wrap64 ((k' : Int) + 1) = ((k' + 1 : Nat) : Int) by have := MM.out.ln; have h2 : ms.length = l0.length := (by rw [← MM.out.hms, msgs_length]); unfold wrap64; omega)
                      have T8LE := Aside0.mk (hS8.off_le MM.out)
                      have HFB8 := Aside0.mk (agree_FB hS8.ag MM.out.by_)
                      have HS8 := Aside0.mk hS8
                      have LL := Aside0.mk hl104
                      clear hCb hle hget h0 HS7 hS8 hl104
                      have ET := Aside0.mk (show (t' : Int) + ((nextR F' t').1.length : Nat) = ((t' + (nextR F' t').1.length : Nat) : Int) by omega)
                      rw [ET.out] at T7
                      obtain ⟨t8, ht8⟩ : ∃ x, t' + (nextR F' t').1.length = x := ⟨_, rfl⟩
                      rw [ht8] at T7 T8LE HS8
                      obtain ⟨F8, hF8⟩ : ∃ x, cut F' t' (nextR F' t').1.length = x := ⟨_, rfl⟩
                      rw [hF8] at T7 HFB8 HS8
                      clear ET ht8 hF8
                      obtain ⟨l, hl⟩ : ∃ l, (nextR F' t').1 = l := ⟨_, rfl⟩
                      rw [hl] at K7 L7 CB LB LL hcell ⊢
                      clear hl
                      have SM := Aside0.mk (same_f l (by have := LL.out; omega) 200 (by have := LL.out; omega))
                      go_wp2_with (first
                        | (go_at_call 24; refine (shibbolethlaw13_same.calls 200 _ _ l _ _ l true w7 K7.out L7.out CB.out LB.out SM.out).mono ?_; rintro e_ w8 ⟨rfl, hd⟩; have T8 := Aside0.mk (T7.out.below hd.below); clear hd T7 K7 L7 CB LB)
                        | (go_at_call 22; refine (next_calls T8.out.st HFB8.out (by omega) (by have := T8LE.out; omega)).mono ?_; unfold NextPost; rintro e_ w9 ⟨v1, rfl, ho1, hs1, hon1⟩; obtain ⟨m9, hT9⟩ := T8.out.after ⟨m', hs1, Or.inl rfl, hon1⟩; obtain ⟨A9, c9, e9, l9, k9⟩ := Kd.R_reads ho1; subst e9; have T9 := Aside0.mk hT9; have K9 := Aside0.mk k9; have L9 := Aside0.mk l9; clear ho1 hs1 hon1 hT9 k9 l9 T8))
                      go_roundg (ms.length - (k' + 1))
                      case measure => omega
                      case rel => exact ⟨k' + 1, t8, m9, F8, A9, c9, Nat.le_refl _, by rw [EK.out], rfl, rfl, T9, K9, L9, HS8⟩
                    · have d0 : decide ((nextR F' t').2 = 0) = false := decide_eq_false h0
                      have HE := next_none h0
                      have HZ := Aside0.mk h0
                      have h7 := T7.out
                      rw [HE] at h7
                      rw [show ([] : List Int).length = 0 from rfl, cut_zero] at h7
                      rw [show (t' : Int) + ((0 : Nat) : Int) = (t' : Int) by omega] at h7
                      have T9 := Aside0.mk h7
                      clear h7 HE T7 K7 L7
                      go_wp2
                      clear d0 h0
                      go_roundg (l2.length + nf - (i + 1))
                      case measure => have := HLT.out; omega
                      case rel => exact ⟨i + 1, k', n5, t', m', F', by have := HLT.out; omega, Nat.le_refl _, by rw [EI.out], rfl, T9.out, ⟨by rw [HH5.out]; exact HS7.out⟩, HZ, NB⟩
              · have dlt : decide ((i : Int) < wrap64 ((l2.length : Int) + (nf : Int))) = false := decide_eq_false (by rw [EL.out]; omega)
                have HE := Sd.done MM.out (k := k) (t := t) (F := F) (by have h_ := HS.out; rw [show i - l2.length = nf by omega, show cov te2 nf = (fl.length : Int) from by rw [← HNT.out]; exact COV.out] at h_; exact h_) HZ.out
                clear HS HZ HN hi hg hlt EL
                obtain ⟨rfl, rfl⟩ := HE
                go_wp2_with (first
                  | (go_at_call 27; refine (taken_calls TT.out.st).mono ?_; rintro e_ w1 ⟨rfl, hw1⟩; replace hw1 := hw1.symm; subst hw1)
                  | (go_at_call 28; refine (awake_calls _).mono ?_; rintro e_ wz ⟨rfl, hb⟩; have BZ := Aside0.mk hb; clear hb))
                go_ret
                exact ⟨rfl, below_step (below_step (below_step BL1.out PX.out.bl) TT.out.bl) BZ.out⟩
end Go.Proofs.Ytbcleckapamicaa.QSo
