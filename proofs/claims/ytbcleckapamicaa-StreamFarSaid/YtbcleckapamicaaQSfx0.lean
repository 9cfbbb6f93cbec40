/- StreamFar: its function, walked by hand: at bytes and a place of 16 bits it answers true. -/
import Derived.Test.YtbcleckapamicaaStm6
namespace Go.Proofs.Ytbcleckapamicaa.QSf
open Go Go.RowKit Go.Proofs.YtbcleckapamicaaW.PrintWords Go.Proofs.YtbcleckapamicaaW.PrintLast Go.Proofs.YtbcleckapamicaaW.PrintMore Go.Proofs.Ytbcleckapamicaa.Stm
set_option linter.unusedVariables false
set_option linter.unusedSimpArgs false

theorem C_set0 {w : World} {g : Nat} {l : List Int} (x : Int) (hC : Kd.C (Kd.int .u8) w (some ⟨g, 0, none⟩) l.length l) (h0 : 0 < l.length) : Kd.C (Kd.int .u8) (w.setCell ⟨g, 0, none⟩ (.int .u8 x)) (some ⟨g, 0, none⟩) (l.set 0 x).length (l.set 0 x) := by
  have hlen : (l.set 0 x).length = l.length := by simp
  refine ⟨rfl, by rw [hlen]; exact hC.2.1, fun _ => ⟨_, rfl, fun j p hj => ⟨[.int .u8 p], rfl, rfl, fun i u hu => ?_⟩⟩⟩
  cases i with
  | succ i => simp at hu
  | zero =>
    injection hu with hu
    subst hu
    have e : ∀ j : Nat, (Addr.add ⟨g, 0, none⟩ (j * (Kd.int .u8).sz + 0) : Addr) = ⟨g, j, none⟩ := fun j => by
      show Addr.add ⟨g, 0, none⟩ (j * 1 + 0) = _
      unfold Addr.add
      split
      · rename_i h
        have : j = 0 := by omega
        rw [this]
      · simp
    obtain ⟨ad, e0, hc⟩ := hC.2.2 h0
    injection e0 with e0
    subst e0
    have hcell : ∀ j q, l[j]? = some q → w.cell? ⟨g, j, none⟩ = some (.int .u8 q) := fun j q hq => by
      obtain ⟨c, h1, h2, h3⟩ := hc j q hq
      have h2' : c = [.int .u8 q] := h2
      subst h2'
      rw [← e j]
      exact h3 0 _ rfl
    rw [e]
    by_cases hj0 : j = 0
    · subst hj0
      rw [List.getElem?_set_self h0] at hj
      injection hj with hj
      subst hj
      exact World.cell?_setCell_same _ _ _ (hcell 0 l[0] (List.getElem?_eq_getElem h0))
    · rw [List.getElem?_set_ne (fun h => hj0 h.symm)] at hj
      rw [World.cell?_setCell_other _ _ _ _ (fun h => hj0 (by injection h with _ h; exact h.symm))]
      exact hcell j p hj
theorem rd_set0 (l : List Int) (x : Int) (h0 : 0 < l.length) : rd (l.set 0 x) 0 = x := by
  simp [rd, List.getD_eq_getElem?_getD, List.getElem?_set_self h0]
theorem bytes_set0 {l : List Int} (h : Bytes l) {x : Int} (hx : 0 ≤ x ∧ x ≤ 255) : Bytes (l.set 0 x) := fun y hy => by
  rcases List.mem_or_eq_of_mem_set hy with h' | rfl
  · exact h y h'
  · exact hx

theorem own_block {w : World} {e base : Nat} {ok : Nat → Prop} {v : Value} {l : List Int} (h : Kd.R (Kd.int .u8) e w base ok v l) (hl : 0 < l.length) : ∃ g cap, v = .slice (some ⟨g, 0, none⟩) l.length cap ∧ base ≤ g := by
  obtain ⟨inner, ho⟩ := Kd.R_own h
  rcases ho.2 with ⟨_, h2⟩ | ⟨g, cap, cur, rfl, hg, _⟩
  · omega
  · exact ⟨g, cap, rfl, hg⟩
/-- Put of a row of the call's own whose first byte was written. -/
theorem far_put {w w1 w7 : World} {sb : Nat} {m : Option Nat} {F : Stm.Fn} {n : Nat} {k : Int} {l : List Int} {g cap : Nat} {x : Int} (h7 : Tr w w7 sb m 0 F n) (h1 : Tr w w1 sb m 0 F n) (hg : w1.heap.size ≤ g) (hC : ∃ A c, (Value.slice (some ⟨g, 0, none⟩) l.length cap) = .slice A l.length c ∧ l.length ≤ c ∧ Kd.C (Kd.int .u8) w7 A l.length l) (hl : 0 < l.length) (hl' : l.length ≤ 100) (hk : 0 ≤ k ∧ k < 5000)
    (hB : Bytes (l.set 0 ((x + 1) % 256))) (hE : putE F 0 k (l.set 0 ((x + 1) % 256)) = 12) (hn : n ≤ 1000000) :
    Calls Try.prog 25 #[.pointer (some ⟨sb, 0, none⟩), .int .i64 k, .slice (some ⟨g, 0, none⟩) l.length cap] (w7.setCell ⟨g, 0, none⟩ (.int .u8 ((x + 1) % 256))) fun e w' => e = .returned (.int .i64 12) ∧ ∃ m', Tr w w' sb m' 0 F (n + l.length) := by
  obtain ⟨A, c, e, hc, hC⟩ := hC
  injection e with e1 _ e2
  subst e1
  have hgs : g ≠ sb := by have := h1.st.lt; omega
  have hgm : some g ≠ m := fun e => by subst e; have := h1.st.mlt; omega
  have T := h7.setFar (g := g) (by have := h1.bl.size; omega) hgs hgm 0 (.int .u8 ((x + 1) % 256))
  have H := put_calls T.st (some ⟨g, 0, none⟩) cap (l.set 0 ((x + 1) % 256)) k (C_set0 _ hC hl) (by omega) (by omega) (by rw [List.length_set]; omega) hB (fun ad e => by
    injection e with e
    subst e
    rintro (q | q)
    · exact hgs q
    · exact hgm q) (by rw [List.length_set]; omega)
  rw [List.length_set] at H
  refine H.mono ?_
  rintro e w' ⟨rfl, hA⟩
  refine ⟨by rw [hE], ?_⟩
  have e2 : putF F 0 k (l.set 0 ((x + 1) % 256)) = F := by unfold putF; rw [hE]; rfl
  rw [e2] at hA
  exact T.after hA

/-! ### shibbolethlaw13_StreamFar: function 7 -/
def shibbolethlaw13_StreamFar.f (a0 : Int) (l1 : List Int) : Option Bool := if (0 ≤ a0 ∧ a0 ≤ 65535) ∧ Bytes l1 then some true else none
set_option maxHeartbeats 1000000 in
set_option maxRecDepth 100000 in
theorem shibbolethlaw13_StreamFar.calls (a0 : Int) (A1 : Option Addr) (c1 : Nat) (l1 : List Int) (r : Bool) (w : World) (hr1 : Kd.C (Kd.int .u8) w A1 l1.length l1) (hc1 : l1.length ≤ c1) (h : shibbolethlaw13_StreamFar.f a0 l1 = some r) :
    Calls Try.prog 7 #[.int .u16 a0, .slice A1 l1.length c1] w fun e w' => e = .returned (.bool r) ∧ Below w.heap.size w w' := by
  obtain ⟨h0, hB, rfl⟩ : (0 ≤ a0 ∧ a0 ≤ 65535) ∧ Bytes l1 ∧ r = true := by
    unfold shibbolethlaw13_StreamFar.f at h
    split at h
    · rename_i q; exact ⟨q.1, q.2, (Option.some.inj h).symm⟩
    · cases h
  clear h
  have HC := Aside0.mk hr1
  have HB := Aside0.mk hB
  clear hr1 hc1 hB
  by_cases b1 : 100 < (l1.length : Int)
  · have d1 : decide (100 < (l1.length : Int)) = true := decide_eq_true b1
    have d1' : decide (100 < l1.length) = true := decide_eq_true (by omega)
    clear b1
    go_enter Try.func7, Try.ntmps7
    go_wp2
    go_ret
    exact ⟨rfl, Below.refl _ _⟩
  have d1 : decide (100 < (l1.length : Int)) = false := decide_eq_false b1
  have d1' : decide (100 < l1.length) = false := decide_eq_false (by omega)
  by_cases b2 : l1.length = 0
  · have q1 : ((l1.length : Int) == 0) = true := beq_iff_eq.mpr (by omega)
    have q2 : (l1.length == 0) = true := beq_iff_eq.mpr (by omega)
    clear b1 b2
    go_enter Try.func7, Try.ntmps7
    go_wp2
    go_ret
    exact ⟨rfl, Below.refl _ _⟩
  have q1 : ((l1.length : Int) == 0) = false := beq_eq_false_iff_ne.mpr (by omega)
  have q2 : (l1.length == 0) = false := beq_eq_false_iff_ne.mpr (by omega)
  obtain ⟨k, hk⟩ : ∃ k : Int, a0.tmod 5000 = k := ⟨_, rfl⟩
  have hk' : 0 ≤ k ∧ k < 5000 := by rw [← hk, Int.tmod_eq_emod_of_nonneg h0.1]; omega
  have ew : wrap64 a0 = a0 := by unfold wrap64; omega
  have T0 := Aside0.mk (Tr.new w)
  have hpos : 0 < l1.length := by omega
  have HC0 := Aside0.mk (Kd.C_below HC.out ((Below.refl w.heap.size w).alloc (Nat.le_refl _) (.cells #[.int .i64 0, .map none] 42)))
  have SEP := Aside0.mk (T0.out.sepOld HC.out hpos)
  have e1 : wrap64 (k + (l1.length : Int)) = k + (l1.length : Int) := by unfold wrap64; omega
  have LEN := Aside0.mk (show l1.length ≤ 100 by omega)
  have POS := Aside0.mk hpos
  have KK := Aside0.mk hk'
  by_cases b3 : 4096 < k + (l1.length : Int)
  · have d3 : decide (4096 < k + (l1.length : Int)) = true := decide_eq_true b3
    have PE := Aside0.mk (show putE F0 0 k l1 = 4 by unfold putE; rw [if_neg (by omega), if_pos ⟨hpos, by omega⟩])
    clear b1 b2 b3 hpos hk' h0
    go_enter Try.func7, Try.ntmps7
    go_wp2_with (first
      | (go_at_call 25; refine (put_calls T0.out.st A1 c1 l1 k HC0.out (by omega) (by omega) (by have := LEN.out; omega) HB.out SEP.out (by have := LEN.out; omega)).mono ?_; rintro e_ w1 ⟨rfl, hA⟩; rw [PE.out]; obtain ⟨m1, hT⟩ := T0.out.after hA; have T1 := Aside0.mk hT; clear hT hA)
      | (go_at_call 28; refine (awake_calls w1).mono ?_; rintro e_ w2 ⟨rfl, hb⟩; have B2 := Aside0.mk (below_step T1.out.bl hb); clear hb))
    go_ret
    exact ⟨rfl, B2.out⟩
  · have d3 : decide (4096 < k + (l1.length : Int)) = false := decide_eq_false b3
    have PE := Aside0.mk (show putE F0 0 k l1 = 0 from putE_ok (by omega) (by omega) (by omega) (fits0 _ _ _))
    have hx := bytes_rd HB.out 0 hpos
    change 0 ≤ rd l1 0 ∧ rd l1 0 ≤ 255 at hx
    have hG : ∀ i : Nat, i < l1.length → Stm.stored F0 0 k l1 l1.length (k + i) = some (rd l1 i) := fun i hi => by
      unfold Stm.stored
      rw [if_pos (by omega), show k + (i : Int) - k = (i : Int) from by omega]
    have PE3 := Aside0.mk (show putE (Stm.stored F0 0 k l1 l1.length) 0 k l1 = 0 from putE_ok (by omega) (by omega) (by omega) (fun i hi c hc => by rw [hG i hi] at hc; exact (Option.some.inj hc).symm))
    have PE2 := Aside0.mk (show putE (Stm.stored F0 0 k l1 l1.length) 0 k (l1.set 0 ((rd l1 0 + 1) % 256)) = 12 from by
      unfold putE
      rw [if_neg (by omega), List.length_set, if_neg (by omega), if_neg]
      intro hf
      have h_ := hf 0 hpos _ (hG 0 hpos)
      have h2_ : rd l1 0 = rd (l1.set 0 ((rd l1 0 + 1) % 256)) 0 := h_
      rw [rd_set0 _ _ hpos] at h2_
      omega)
    have BS := Aside0.mk (show Bytes (l1.set 0 ((rd l1 0 + 1) % 256)) from bytes_set0 HB.out (by omega))
    have LM := Aside0.mk (show ([] : List Int).length + l1.length ≤ 200 by simp; omega)
    have g0 : (0 : Int) < (l1.length : Int) := by omega
    clear b1 b2 b3 hk' h0 hx hG
    go_enter Try.func7, Try.ntmps7
    go_wp2_with (first
      | (go_at_call 25; refine (put_calls T0.out.st A1 c1 l1 k HC0.out (by omega) (by omega) (by have := LEN.out; omega) HB.out SEP.out (by have := LEN.out; omega)).mono ?_; rintro e_ w1 ⟨rfl, hA⟩; rw [PE.out]; rw [putF_ok PE.out] at hA; obtain ⟨m1, hT⟩ := T0.out.after hA; have T1 := Aside0.mk hT; have K1 := Aside0.mk (Kd.C_below HC.out hT.bl); clear hT hA; clear T0 HC0)
      | ((with_reducible refine gate_dst (N := 36) rfl ?_); refine Kd.R_lit (Kd.int .u8) w1.heap.size 5 ?hg (N := 36) ?hd (xs := ([] : List Int)) (inner := []) (ok := fun _ => True) (okp := fun _ => True) ?hr ?hp (fun _ hk => hk) trivial (Below.refl _ _) (Nat.le_refl _) (by simp) ?_;
         (case hd => rfl); (case hg => rfl); (case hr => first | (go_simp; done) | (go_simp; rfl)); (case hp => exact (Reps.none _ _)); intro v6 w6 ho6 hb6 hg_ hnew_; clear hg_ hnew_; have O6 := Aside0.mk ho6; have B6 := Aside0.mk hb6; clear ho6 hb6)
      | ((with_reducible refine gate_builtin (b := .append) (xs := #[.tmp 36, .tmp 37]) rfl ?_); at_builtin;
         refine Kd.R_append_rows (Kd.int .u8) (w0 := w1) w1.heap.size rfl (.tmp 36) (.tmp 37) 44 5 (.int .u8 0) 1 rfl Try.underlying44 info5 rfl (by decide) (by omega) v6 ([] : List Int) l1 _ _ _ (fun _ => True) (fun _ => False) rfl rfl ?aO ?aR (fun _ _ h => h) (fun _ h => h.elim) ?aF ?aB ?aS ?aL ?_;
         (case aR => exact Kd.C_below K1.out B6.out); (case aB => exact B6.out); (case aF => exact fun _ _ => trivial); (case aO => exact O6.out); (case aS => exact below_size B6.out); (case aL => have := LM.out; omega);
         intro v7 w7 ho7 hb7 hg7 hat7; clear hg7 hat7; rw [List.nil_append] at ho7; obtain ⟨g, cap, rfl, hgl⟩ := own_block ho7 POS.out;
         obtain ⟨cc, ff⟩ := Kd.R_cell (0 : Int) ho7 0 (by omega) (by have := POS.out; omega); replace cc : w7.cell? ⟨g, 0, none⟩ = some (.int .u8 (rd l1 0)) := cc; replace ff : w7.frozen? ⟨g, 0, none⟩ = false := ff;
         have K7 := Aside0.mk (Kd.R_reads ho7); have B7 := Aside0.mk hb7; have GL := Aside0.mk hgl; have T7 := Aside0.mk (T1.out.below hb7); clear ho7 hb7 hgl O6 B6)
      | (go_at_call 25; refine (far_put T7.out T1.out GL.out K7.out POS.out LEN.out KK.out BS.out PE2.out (by have := LEN.out; omega)).mono ?_; rintro e_ w8 ⟨rfl, m8, hT⟩; have T8 := Aside0.mk hT; have K8 := Aside0.mk (Kd.C_below HC.out hT.bl); clear hT T7)
      | (go_at_call 25; refine (put_calls T8.out.st A1 c1 l1 k K8.out (by omega) (by omega) (by have := LEN.out; omega) HB.out (T8.out.sepOld HC.out POS.out) (by have := LEN.out; omega)).mono ?_; rintro e_ w9 ⟨rfl, hA⟩; rw [PE3.out]; obtain ⟨m9, hT⟩ := T8.out.after hA; have T9 := Aside0.mk hT; clear hT hA)
      | (go_at_call 28; refine (awake_calls w9).mono ?_; rintro e_ w10 ⟨rfl, hb⟩; have B10 := Aside0.mk (below_step T9.out.bl hb); clear hb))
    go_ret
    exact ⟨rfl, B10.out⟩
end Go.Proofs.Ytbcleckapamicaa.QSf
