/- A part of the proof of the law HeaderSplits: Ri0, Ri1, Ri2. -/
import Derived.Test.YtpihkmpcnkhnfaaDoorZHs03
namespace Go.Proofs.YtpihkmpcnkhnfaaDoor.Ri
open Go Go.RowKit Go.Proofs.YtpihkmpcnkhnfaaDoorW.PrintWords Go.Proofs.YtpihkmpcnkhnfaaDoorW.PrintLast Go.Proofs.YtpihkmpcnkhnfaaDoorW.PrintMore
open Go.Proofs.YtpihkmpcnkhnfaaDoor.Onl (Only)
open Go.Proofs.YtpihkmpcnkhnfaaDoor.Hr (numF numF_snoc numF_bd info5)
set_option linter.unusedVariables false
set_option linter.unusedSimpArgs false
structure Inn (w0 w : World) (rb : Nat) (A : Option Addr) (c : Nat) (l : List Int) (p : Nat) (e : Int) : Prop where
  c0 : w.cell? ⟨rb, 0, none⟩ = some (.slice A l.length c)
  c1 : w.cell? ⟨rb, 1, none⟩ = some (.int .i64 p)
  c2 : w.cell? ⟨rb, 2, none⟩ = some (.int .i64 e)
  f1 : w.frozen? ⟨rb, 1, none⟩ = false
  f2 : w.frozen? ⟨rb, 2, none⟩ = false
  lo : w0.heap.size ≤ rb
  bl : Below w0.heap.size w0 w
  C : Kd.C (Kd.int .u8) w0 A l.length l
  lc : l.length ≤ c
  lm : l.length ≤ 100000
  pl : p ≤ l.length
  by_ : ∀ x ∈ l, 0 ≤ x ∧ x ≤ 255
section
variable {w0 w w' : World} {rb : Nat} {A : Option Addr} {c : Nat} {l : List Int} {p : Nat} {e : Int}
theorem Inn.lt (h : Inn w0 w rb A c l p e) : rb < w.heap.size := World.block_lt_of_cell? w _ h.c0
theorem Inn.below (h : Inn w0 w rb A c l p e) (hb : Below w.heap.size w w') : Inn w0 w' rb A c l p e :=
  ⟨pw_cell_below hb h.c0, pw_cell_below hb h.c1, pw_cell_below hb h.c2, (hb.frozen (p := ⟨rb, 1, none⟩) h.lt).trans h.f1, (hb.frozen (p := ⟨rb, 2, none⟩) h.lt).trans h.f2, h.lo, below_step h.bl hb, h.C, h.lc, h.lm, h.pl, h.by_⟩
theorem Inn.set (h : Inn w0 w rb A c l p e) (q : Nat) (hq : q ≤ l.length) : Inn w0 (w.setCell ⟨rb, 1, none⟩ (.int .i64 q)) rb A c l q e :=
  ⟨(World.cell?_setCell_other _ _ _ _ (by simp)).trans h.c0, World.cell?_setCell_same _ _ _ h.c1, (World.cell?_setCell_other _ _ _ _ (by simp)).trans h.c2, by rw [World.frozen?_setCell]; exact h.f1, by rw [World.frozen?_setCell]; exact h.f2, h.lo, h.bl.setCell h.lo _, h.C, h.lc, h.lm, hq, h.by_⟩
theorem Inn.err (h : Inn w0 w rb A c l p e) (x : Int) : Inn w0 (w.setCell ⟨rb, 2, none⟩ (.int .i64 x)) rb A c l p x :=
  ⟨(World.cell?_setCell_other _ _ _ _ (by simp)).trans h.c0, (World.cell?_setCell_other _ _ _ _ (by simp)).trans h.c1, World.cell?_setCell_same _ _ _ h.c2, by rw [World.frozen?_setCell]; exact h.f1, by rw [World.frozen?_setCell]; exact h.f2, h.lo, h.bl.setCell h.lo _, h.C, h.lc, h.lm, h.pl, h.by_⟩
theorem Inn.far (h : Inn w0 w rb A c l p e) {a : Addr} (ha : a.block ≠ rb) (h0 : w0.heap.size ≤ a.block) (v : Value) : Inn w0 (w.setCell a v) rb A c l p e :=
  ⟨(World.cell?_setCell_other _ _ _ _ (fun q => ha (by rw [q]))).trans h.c0, (World.cell?_setCell_other _ _ _ _ (fun q => ha (by rw [q]))).trans h.c1, (World.cell?_setCell_other _ _ _ _ (fun q => ha (by rw [q]))).trans h.c2, by rw [World.frozen?_setCell]; exact h.f1, by rw [World.frozen?_setCell]; exact h.f2, h.lo, h.bl.setCell h0 _, h.C, h.lc, h.lm, h.pl, h.by_⟩
end
def needE (e : Int) (b : Bool) (x : Int) : Int := if e = 0 then (if b then 0 else x) else e
set_option maxRecDepth 100000 in
theorem need_calls {w0 w : World} {rb : Nat} {A : Option Addr} {c : Nat} {l : List Int} {p : Nat} {e : Int} (h : Inn w0 w rb A c l p e) (b : Bool) (x : Int) :
    Calls Tryd.prog 15 #[.pointer (some ⟨rb, 0, none⟩), .bool b, .int .i64 x] w fun en w' => en = .returned (.tuple #[]) ∧ Inn w0 w' rb A c l p (needE e b x) ∧ Only (fun k => k = rb) w w' := by
  have c2 := h.c2
  have f2 := h.f2
  have HH := Aside0.mk h
  clear h
  by_cases he : e = 0
  · subst he
    cases b
    · go_enter Tryd.func15, Tryd.ntmps15
      go_wp2
      go_end0
      exact ⟨rfl, HH.out.err x, (Only.refl (fun k => k = rb) w).setCell (ad := ⟨rb, 2, none⟩) rfl _⟩
    · go_enter Tryd.func15, Tryd.ntmps15
      go_wp2
      go_end0
      exact ⟨rfl, HH.out, Only.refl _ _⟩
  · have q0 : (e == 0) = false := by simpa using he
    have q1 : decide (e = 0) = false := decide_eq_false he
    have HE := Aside0.mk he
    clear he
    have e2 : needE e b x = e := if_neg HE.out
    rw [e2]
    go_enter Tryd.func15, Tryd.ntmps15
    go_wp2
    go_end0
    exact ⟨rfl, HH.out, Only.refl _ _⟩
def bytesS (l : List Int) (p : Nat) (e : Int) (n : Nat) : List Int × Nat × Int := if e = 0 then (if p + n ≤ l.length then ((l.drop p).take n, p + n, 0) else ([], p, 2)) else ([], p, e)
def Row0 (w0 : World) (v : Value) (r : List Int) : Prop := ∃ A' c', v = .slice A' r.length c' ∧ Kd.C (Kd.int .u8) w0 A' r.length r ∧ r.length ≤ c'
theorem row0_nil (w0 : World) : Row0 w0 (.slice none 0 0) [] := ⟨none, 0, rfl, (Kd.R_reads' (Kd.R_nil (Kd.int .u8) 5 w0 w0.heap.size (fun _ => True))).2.2, Nat.le_refl _⟩
set_option maxHeartbeats 2000000 in
set_option maxRecDepth 100000 in
theorem bytes_calls {w0 w : World} {rb : Nat} {A : Option Addr} {c : Nat} {l : List Int} {p : Nat} {e : Int} (h : Inn w0 w rb A c l p e) (n : Nat) (hn' : n ≤ 4611686018427387903) :
    Calls Tryd.prog 16 #[.pointer (some ⟨rb, 0, none⟩), .int .i64 n] w fun en w' => ∃ v, en = .returned v ∧ Row0 w0 v (bytesS l p e n).1 ∧ Inn w0 w' rb A c l (bytesS l p e n).2.1 (bytesS l p e n).2.2 ∧ Only (fun k => k = rb) w w' := by
  have c0 := h.c0
  have c1 := h.c1
  have c2 := h.c2
  have f1 := h.f1
  have f2 := h.f2
  have hp := h.pl
  have hm := h.lm
  have HH := Aside0.mk h
  have e0 : IntKind.i64.wrap ((l.length : Int) - (p : Int)) = (l.length : Int) - (p : Int) := IntWalk.i64_in _ (by omega)
  have e1 : wrap64 ((l.length : Int) - (p : Int)) = (l.length : Int) - (p : Int) := by unfold wrap64; omega
  by_cases he : e = 0
  · subst he
    by_cases hn : p + n ≤ l.length
    · have d0 : decide ((l.length : Int) - (p : Int) < (n : Int)) = false := decide_eq_false (by omega)
      have e2 : IntKind.i64.wrap ((p : Int) + (n : Int)) = (((p + n : Nat)) : Int) := by rw [IntWalk.i64_in _ (by omega)]; simp
      have e3 : wrap64 ((p : Int) + (n : Int)) = (((p + n : Nat)) : Int) := by unfold wrap64; omega
      have e4 : IntKind.i64.wrap (((p + n : Nat) : Int) - (n : Int)) = (p : Int) := by rw [IntWalk.i64_in _ (by omega)]; omega
      have e5 : wrap64 (((p + n : Nat) : Int) - (n : Int)) = (p : Int) := by unfold wrap64; omega
      obtain ⟨i05, hi5, _, hsz5, _⟩ := info_parts info5
      obtain ⟨A5, hs5, hR5, hc5⟩ := print_mid_of (P := Tryd.prog) (Value.int .u8) (0 : Int) 22 5 .i64 .i64 Tryd.underlying22 hi5 hsz5 A c l (p : Int) ((p + n : Nat) : Int) (by omega) (by omega) (by omega) h.lc
      simp only [Int.toNat_natCast] at hs5 hR5 hc5
      have hcut : (l.take (p + n)).drop p = (l.drop p).take n := by rw [List.drop_take]; congr 1; omega
      rw [hcut] at hs5 hR5 hc5
      obtain ⟨x, hx⟩ : ∃ x, (l.drop p).take n = x := ⟨_, rfl⟩
      have eb : bytesS l p 0 n = (x, p + n, 0) := by unfold bytesS; rw [if_pos rfl, if_pos hn, hx]
      rw [hx] at hs5 hR5 hc5
      rw [eb]
      have HX := Aside0.mk (show Row0 w0 (.slice A5 x.length (c - p)) x from ⟨_, _, rfl, Kd.C_of_reads (h1 := fun _ => rfl) (hR5 _ (Kd.reads_of_C h.C)), hc5⟩)
      have HN := Aside0.mk hn
      clear h hn hm hp hn' eb hi5 hsz5 hR5 hc5 hx hcut
      obtain ⟨pn, hpn⟩ : ∃ pn, p + n = pn := ⟨_, rfl⟩
      rw [hpn] at e2 e3 e4 e5 hs5 HN ⊢
      clear hpn
      go_enter Tryd.func16, Tryd.ntmps16
      go_wp2
      go_quiet (fail)
      have HH1 := Aside0.mk (HH.out.below (w' := w.drewN nq) (pw_below_drewN (Below.refl _ _) nq))
      have HO1 := Aside0.mk ((Only.refl (fun k => k = rb) w).drewN nq)
      clear c0 c1 c2 f1 f2
      generalize w.drewN nq = wa at HH1 HO1 ⊢
      have c0 := HH1.out.c0
      have c1 := HH1.out.c1
      have c2 := HH1.out.c2
      have f1 := HH1.out.f1
      have f2 := HH1.out.f2
      go_wp2
      go_quiet (fail)
      go_wp2
      go_ret
      have s1 := ((Only.refl (fun k => k = rb) wa).setCell (ad := ⟨rb, 1, none⟩) rfl (.int .i64 (pn : Int))).drewN nq
      exact ⟨_, rfl, HX.out, (HH1.out.set pn HN.out).below (pw_below_drewN (Below.refl _ _) nq), HO1.out.trans s1⟩
    · have d0 : decide ((l.length : Int) - (p : Int) < (n : Int)) = true := decide_eq_true (by omega)
      have eb : bytesS l p 0 n = ([], p, 2) := by unfold bytesS; rw [if_pos rfl, if_neg hn]
      rw [eb]
      clear h hn hm hp hn' eb
      go_enter Tryd.func16, Tryd.ntmps16
      go_wp2
      go_quiet (fail)
      have HH1 := Aside0.mk (HH.out.below (w' := w.drewN nq) (pw_below_drewN (Below.refl _ _) nq))
      have HO1 := Aside0.mk ((Only.refl (fun k => k = rb) w).drewN nq)
      clear c0 c1 c2 f1 f2
      generalize w.drewN nq = wa at HH1 HO1 ⊢
      have c0 := HH1.out.c0
      have c1 := HH1.out.c1
      have c2 := HH1.out.c2
      have f1 := HH1.out.f1
      have f2 := HH1.out.f2
      go_wp2
      go_ret
      exact ⟨_, rfl, row0_nil _, HH1.out.err 2, HO1.out.trans ((Only.refl (fun k => k = rb) wa).setCell (ad := ⟨rb, 2, none⟩) rfl _)⟩
  · have q0 : (e == 0) = false := by simpa using he
    have q1 : decide (e = 0) = false := decide_eq_false he
    have eb : bytesS l p e n = ([], p, e) := by unfold bytesS; rw [if_neg he]
    rw [eb]
    clear he h hm hp hn' eb
    go_enter Tryd.func16, Tryd.ntmps16
    go_wp2
    go_quiet (fail)
    have HH1 := Aside0.mk (HH.out.below (w' := w.drewN nq) (pw_below_drewN (Below.refl _ _) nq))
    have HO1 := Aside0.mk ((Only.refl (fun k => k = rb) w).drewN nq)
    clear c0 c1 c2 f1 f2
    generalize w.drewN nq = wa at HH1 HO1 ⊢
    have c0 := HH1.out.c0
    have c1 := HH1.out.c1
    have c2 := HH1.out.c2
    have f1 := HH1.out.f1
    have f2 := HH1.out.f2
    go_wp2
    go_ret
    exact ⟨_, rfl, row0_nil _, HH1.out, HO1.out⟩
theorem bytesS_len (l : List Int) (p : Nat) (e : Int) (n : Nat) : (bytesS l p e n).1.length ≤ n := by unfold bytesS; split; split; all_goals simp; try omega
theorem bytesS_by {l : List Int} (h : ∀ x ∈ l, 0 ≤ x ∧ x ≤ 255) (p : Nat) (e : Int) (n : Nat) : ∀ x ∈ (bytesS l p e n).1, 0 ≤ x ∧ x ≤ 255 := by
  unfold bytesS
  intro x hx
  split at hx
  · split at hx
    · exact h x (List.mem_of_mem_drop (List.mem_of_mem_take hx))
    · cases hx
  · cases hx
theorem most_calls {w0 w : World} {rb : Nat} {A : Option Addr} {c : Nat} {l : List Int} {p : Nat} {e : Int} (h : Inn w0 w rb A c l p e) (n : Nat) (hn' : n ≤ 4611686018427387903) (m : Int) :
    Calls Tryd.prog 17 #[.pointer (some ⟨rb, 0, none⟩), .int .i64 n, .int .i64 m] w fun en w' => ∃ v, en = .returned v ∧ Row0 w0 v (bytesS l p (needE e (decide ((n : Int) ≤ m)) 4) n).1 ∧ Inn w0 w' rb A c l (bytesS l p (needE e (decide ((n : Int) ≤ m)) 4) n).2.1 (bytesS l p (needE e (decide ((n : Int) ≤ m)) 4) n).2.2 ∧ Only (fun k => k = rb) w w' := by
  have HN := need_calls h (decide ((n : Int) ≤ m)) 4
  obtain ⟨b, hb⟩ : ∃ b, decide ((n : Int) ≤ m) = b := ⟨_, rfl⟩
  rw [hb] at HN ⊢
  obtain ⟨e1, he1⟩ : ∃ e1, needE e b 4 = e1 := ⟨_, rfl⟩
  rw [he1] at HN ⊢
  obtain ⟨S, hS⟩ : ∃ S, bytesS l p e1 n = S := ⟨_, rfl⟩
  have HB := Aside0.mk (fun (W : World) (hi : Inn w0 W rb A c l p e1) => bytes_calls hi n hn')
  rw [hS] at HB ⊢
  clear hS he1 h
  go_enter Tryd.func17, Tryd.ntmps17
  go_wp2_with (first
    | (go_at_call 15; refine HN.mono ?_; rintro e1 w1 ⟨rfl, hi, ho⟩; have HI := Aside0.mk hi; have HO := Aside0.mk ho; clear hi ho)
    | (go_at_call 16; refine (HB.out _ HI.out).mono ?_; rintro e2 w2 ⟨v2, rfl, hr2, hi2, ho2⟩; have HR2 := Aside0.mk hr2; have HI2 := Aside0.mk hi2; have HO2 := Aside0.mk ho2; clear hr2 hi2 ho2))
  go_ret
  exact ⟨_, rfl, HR2.out, HI2.out, HO.out.trans HO2.out⟩
theorem step_num {n c : Int} (hn : 0 ≤ n) (hn' : n < 1099511627776) (hc : 0 ≤ c ∧ c ≤ 255) : wrap64 (wrap64 (256 * n) + wrap64 c) = 256 * n + c := by
  unfold wrap64; omega
set_option maxHeartbeats 1000000 in
set_option maxRecDepth 100000 in
theorem number_calls {w0 w : World} {rb : Nat} {A : Option Addr} {c : Nat} {l : List Int} {p : Nat} {e : Int} (h : Inn w0 w rb A c l p e) (n : Nat) (h4 : n ≤ 4) :
    Calls Tryd.prog 14 #[.pointer (some ⟨rb, 0, none⟩), .int .i64 n] w fun en w' => en = .returned (.int .i64 (numF (bytesS l p e n).1)) ∧ Inn w0 w' rb A c l (bytesS l p e n).2.1 (bytesS l p e n).2.2 ∧ Only (fun k => k = rb) w w' := by
  have HB := bytes_calls h n (by omega)
  have hlen := bytesS_len l p e n
  have hby := bytesS_by h.by_ p e n
  obtain ⟨⟨x, p1, e1⟩, hS⟩ : ∃ S, bytesS l p e n = S := ⟨_, rfl⟩
  rw [hS] at HB hlen hby ⊢
  have HBy := Aside0.mk (show ∀ y ∈ x, 0 ≤ y ∧ y ≤ 255 from hby)
  have HX := Aside0.mk (show x.length ≤ 4 from Nat.le_trans hlen h4)
  have hbl := Aside0.mk h.bl
  clear hby hlen hS h h4
  go_enter Tryd.func14, Tryd.ntmps14
  go_wp2_with (go_at_call 16; refine HB.mono ?_; rintro e2 w1 ⟨v1, rfl, ⟨A1, c1, rfl, hC, hl1⟩, hr, hon⟩; have HC := Aside0.mk (Kd.C_below hC hr.bl); have HR := Aside0.mk hr; have HON := Aside0.mk hon; clear hr hon hl1 hC)
  clear HB
  have hxl := HX.out
  go_loop [6, 7] (fun n6 i => ∃ k : Nat, k ≤ x.length ∧ i = .int .i64 k ∧ n6 = .int .i64 (numF (x.take k))) (fun _ i => x.length - (intOf i).toNat)
  case atStart => exact ⟨0, Nat.zero_le _, rfl, rfl⟩
  case round =>
    obtain ⟨k, hk, rfl, rfl⟩ := hrel
    by_cases hlt : k < x.length
    · obtain ⟨ad, e, hc⟩ := Kd.at_int HC.out (k : Int) (by omega) (by omega)
      subst e
      simp only [Int.toNat_natCast] at hc
      have hsn : x.take (k + 1) = x.take k ++ [rd x (k : Int)] := by
        rw [List.take_succ_eq_append_getElem hlt]
        simp [rd, List.getD_eq_getElem?_getD, hlt]
      have hcb : 0 ≤ rd x (k : Int) ∧ rd x (k : Int) ≤ 255 := by
        have : rd x (k : Int) = x[k] := by simp [rd, List.getD_eq_getElem?_getD, hlt]
        rw [this]
        exact HBy.out _ (List.getElem_mem hlt)
      have hnb := numF_bd k (x.take k) (by simp; omega) (fun y hy => HBy.out y (List.mem_of_mem_take hy))
      have hp4 : (256 : Int) ^ k ≤ 4294967296 := by
        have : k ≤ 3 := by omega
        match k, this with
        | 0, _ => decide
        | 1, _ => decide
        | 2, _ => decide
        | 3, _ => decide
      have HV := Aside0.mk ((step_num hnb.1 (by omega) hcb).trans (show _ = numF (x.take (k + 1)) by rw [hsn, numF_snoc]))
      obtain ⟨cc, hcc⟩ : ∃ cc, rd x (k : Int) = cc := ⟨_, rfl⟩
      obtain ⟨nn, hnn⟩ : ∃ nn, numF (x.take k) = nn := ⟨_, rfl⟩
      clear hsn hcb hnb hp4
      rw [hcc] at hc HV
      rw [hnn] at HV ⊢
      have HVV := HV
      clear hcc hnn HV
      have qi : (k : Int) < (x.length : Int) := by omega
      go_wp2
      go_round
      case measure => simp [intOf]; omega
      case rel => exact ⟨k + 1, by omega, by go_num, by rw [← HVV.out]⟩
    · have he : k = x.length := by omega
      subst he
      have HT := Aside0.mk (show x.take x.length = x from List.take_length)
      clear hlt
      go_wp2
      go_ret
      exact ⟨rfl, HR.out, HON.out⟩
def varS (l : List Int) (p : Nat) (e : Int) : Nat × Nat × Int := if e = 0 then ((Vn.vread (l.drop p)).1.toNat, p + (Vn.vread (l.drop p)).2.1.toNat, (Vn.vread (l.drop p)).2.2) else (0, p, e)
theorem ref_read_at {w0 W : World} {rb : Nat} {A : Option Addr} {c : Nat} {l : List Int} {p : Nat} {e : Int} (h : Inn w0 W rb A c l p e) :
    ∃ A', (∀ W' : World, (Instr.slice 22 (.slice A l.length c) (some (.int .i64 (p : Int))) none none).run Tryd.prog W' = .ok (.slice A' (l.drop p).length (c - p)) W') ∧
      ∀ n : Nat, Calls Tryd.prog 28 #[.slice A' (l.drop p).length (c - p)] (W.drewN n) fun en w' => en = .returned (.tuple #[.int .i64 (Vn.vread (l.drop p)).1, .int .i64 (Vn.vread (l.drop p)).2.1, .int .i64 (Vn.vread (l.drop p)).2.2]) ∧ ∃ m, w' = W.drewN m := by
  obtain ⟨i05, hi5, _, hsz5, _⟩ := info_parts info5
  have hp := h.pl
  obtain ⟨A5, hs5, hR5, hc5⟩ := print_drop_of (P := Tryd.prog) (Value.int .u8) (0 : Int) 22 5 .i64 Tryd.underlying22 hi5 hsz5 A c l (p : Int) (by omega) (by omega) h.lc
  simp only [Int.toNat_natCast] at hs5 hR5 hc5
  refine ⟨A5, hs5, fun n => ?_⟩
  have hC : Kd.C (Kd.int .u8) w0 A5 (l.drop p).length (l.drop p) := Kd.C_of_reads (h1 := fun _ => rfl) (hR5 _ (Kd.reads_of_C h.C))
  refine (QVa.shibbolethref01_Read.calls 100 A5 (c - p) (l.drop p) _ _ _ (W.drewN n) (Kd.C_below hC (pw_below_drewN h.bl n)) hc5 (VaP.read_f (l.drop p) (fun x hx => h.by_ x (List.mem_of_mem_drop hx)) (by have := h.lm; simp; omega) 100 (by omega))).mono ?_
  rintro e w' ⟨rfl, ⟨m, rfl⟩⟩
  exact ⟨rfl, n + m, by rw [World.drewN_drewN]⟩
set_option maxHeartbeats 1000000 in
set_option maxRecDepth 100000 in
theorem varint_calls {w0 w : World} {rb : Nat} {A : Option Addr} {c : Nat} {l : List Int} {p : Nat} {e : Int} (h : Inn w0 w rb A c l p e) :
    Calls Tryd.prog 18 #[.pointer (some ⟨rb, 0, none⟩)] w fun en w' => en = .returned (.int .i64 (varS l p e).1) ∧ Inn w0 w' rb A c l (varS l p e).2.1 (varS l p e).2.2 ∧ Only (fun k => k = rb) w w' := by
  have c0 := h.c0
  have c1 := h.c1
  have c2 := h.c2
  have f1 := h.f1
  have f2 := h.f2
  have hm := h.lm
  have hp := h.pl
  have HH := Aside0.mk h
  by_cases he : e = 0
  · subst he
    obtain ⟨A', hs, hr⟩ := ref_read_at h
    obtain ⟨vn, vs, ve, hv, hvs⟩ : ∃ (vn vs : Nat) (ve : Int), Vn.vread (l.drop p) = ((vn : Int), (vs : Int), ve) ∧ p + vs ≤ l.length := by
      rcases Hr.vread_cases (l.drop p) with ⟨n, s, hv, _, h2, _⟩ | ⟨e, _, hv⟩
      · exact ⟨n, s, 0, hv, by simp at h2; omega⟩
      · exact ⟨0, 0, e, hv, by omega⟩
    have eb : varS l p 0 = (vn, p + vs, ve) := by unfold varS; rw [if_pos rfl, hv]; simp
    rw [eb]
    rw [hv] at hr
    have HR := Aside0.mk hr
    have e2 : IntKind.i64.wrap ((p : Int) + (vs : Int)) = (((p + vs : Nat)) : Int) := by rw [IntWalk.i64_in _ (by omega)]; simp
    have e3 : wrap64 ((p : Int) + (vs : Int)) = (((p + vs : Nat)) : Int) := by unfold wrap64; omega
    have HN := Aside0.mk hvs
    obtain ⟨dl, hdl⟩ : ∃ dl, l.drop p = dl := ⟨_, rfl⟩
    obtain ⟨ps, hps⟩ : ∃ ps, p + vs = ps := ⟨_, rfl⟩
    rw [hdl] at hs HR
    rw [hps] at e2 e3 HN ⊢
    clear h hv hr hdl hps hm hvs hp eb
    go_enter Tryd.func18, Tryd.ntmps18
    go_wp2
    go_quiet ((go_at_call 28; exact HR.out _))
    have HH1 := Aside0.mk (HH.out.below (w' := w.drewN nq) (pw_below_drewN (Below.refl _ _) nq))
    have HO1 := Aside0.mk ((Only.refl (fun k => k = rb) w).drewN nq)
    clear c0 c1 c2 f1 f2
    generalize w.drewN nq = wa at HH1 HO1 ⊢
    have c1 := HH1.out.c1
    have c2 := HH1.out.c2
    have f1 := HH1.out.f1
    have f2 := HH1.out.f2
    go_wp2
    go_ret
    exact ⟨rfl, (HH1.out.err ve).set ps HN.out, HO1.out.trans (((Only.refl (fun k => k = rb) _).setCell (ad := ⟨rb, 2, none⟩) rfl _).setCell (ad := ⟨rb, 1, none⟩) rfl _)⟩
  · have q0 : (e == 0) = false := by simpa using he
    have q1 : decide (e = 0) = false := decide_eq_false he
    have eb : varS l p e = (0, p, e) := by unfold varS; rw [if_neg he]
    rw [eb]
    clear he h hm hp eb
    go_enter Tryd.func18, Tryd.ntmps18
    go_wp2
    go_ret
    exact ⟨rfl, HH.out, Only.refl _ _⟩
end Go.Proofs.YtpihkmpcnkhnfaaDoor.Ri
namespace Go.Proofs.YtpihkmpcnkhnfaaDoor.Ri
open Go Go.RowKit Go.Proofs.YtpihkmpcnkhnfaaDoorW.PrintWords Go.Proofs.YtpihkmpcnkhnfaaDoorW.PrintLast Go.Proofs.YtpihkmpcnkhnfaaDoorW.PrintMore
open Go.Proofs.YtpihkmpcnkhnfaaDoor.Onl (Only)
open Go.Proofs.YtpihkmpcnkhnfaaDoor.Hr (numF numF_snoc numF_bd info5)
set_option linter.unusedVariables false
set_option linter.unusedSimpArgs false
def Hk (w : World) (b : Nat) (cs : List Value) : Prop := w.heap[b]? = some (.cells cs.toArray 28 (0, 0))
theorem Hk.lt {w : World} {b : Nat} {cs : List Value} (h : Hk w b cs) : b < w.heap.size := (Array.getElem?_eq_some_iff.1 h).1
theorem Hk.cell {w : World} {b : Nat} {cs : List Value} (h : Hk w b cs) (j : Nat) (v : Value) (hj : cs[j]? = some v) : w.cell? ⟨b, j, none⟩ = some v := by
  unfold Hk at h
  simp [World.cell?, h, hj]
theorem Hk.frozen {w : World} {b : Nat} {cs : List Value} (h : Hk w b cs) (j : Nat) : w.frozen? ⟨b, j, none⟩ = false := by
  unfold Hk at h
  simp [World.frozen?, h]
theorem Hk.set {w : World} {b : Nat} {cs : List Value} (h : Hk w b cs) (j : Nat) (v : Value) : Hk (w.setCell ⟨b, j, none⟩ v) b (cs.set j v) := by
  unfold Hk at h ⊢
  rw [heap_setCell_same w b j cs.toArray 28 v h]
  simp
theorem Hk.only {w w' : World} {b : Nat} {cs : List Value} (h : Hk w b cs) {p : Nat → Prop} (ho : Only p w w') (hp : ¬ p b) : Hk w' b cs := (ho.block b h.lt hp).trans h
theorem Hk.far {w : World} {b : Nat} {cs : List Value} (h : Hk w b cs) {a : Addr} (ha : a.block ≠ b) (v : Value) : Hk (w.setCell a v) b cs := by
  unfold Hk at h ⊢
  rw [heap_setCell_other _ _ _ _ (fun e => ha e.symm)]
  exact h
theorem Hk.new (w : World) (cs : List Value) : Hk (w.alloc (.cells cs.toArray 28)) w.heap.size cs := World.alloc_heap_new w _
def iw (w : World) (A : Option Addr) (n c : Nat) : World := (w.alloc (.cells #[.int .i64 0, .int .i64 0, .slice none 0 0, .slice none 0 0, .slice none 0 0, .int .i64 0, .int .i64 0, .int .i64 0] 28)).alloc (.cells #[.slice A n c, .int .i64 0, .int .i64 0] 49)
theorem iw_inn {w : World} {A : Option Addr} {c : Nat} {l : List Int} (hC : Kd.C (Kd.int .u8) w A l.length l) (hc : l.length ≤ c) (hl : l.length ≤ 100000) (hB : ∀ x ∈ l, 0 ≤ x ∧ x ≤ 255) : Inn w (iw w A l.length c) (w.heap.size + 1) A c l 0 0 := by
  have hb : (iw w A l.length c).heap[w.heap.size + 1]? = some (.cells #[.slice A l.length c, .int .i64 0, .int .i64 0] 49 (0, 0)) := by
    have := World.alloc_heap_new (w.alloc (.cells #[.int .i64 0, .int .i64 0, .slice none 0 0, .slice none 0 0, .slice none 0 0, .int .i64 0, .int .i64 0, .int .i64 0] 28)) (.cells #[.slice A l.length c, .int .i64 0, .int .i64 0] 49)
    rwa [World.size_alloc] at this
  refine ⟨?_, ?_, ?_, ?_, ?_, by omega, below_alloc (below_alloc (Below.refl _ _) _) _, hC, hc, hl, Nat.zero_le _, hB⟩
  all_goals simp [World.cell?, World.frozen?, hb]
theorem iw_hk (w : World) (A : Option Addr) (n c : Nat) : Hk (iw w A n c) w.heap.size [.int .i64 0, .int .i64 0, .slice none 0 0, .slice none 0 0, .slice none 0 0, .int .i64 0, .int .i64 0, .int .i64 0] :=
  (Hk.new w _).only ((Only.refl (fun _ => False) _).alloc _) (fun q => q)
def RefPost (w : World) (fl : Hr.Flds) (at_ fin e : Int) (en : Ending) (w' : World) : Prop :=
  ∃ v2 v3 v4 : Value, en = .returned (.tuple #[.agg #[.int .i64 fl.1, .int .i64 fl.2.1, v2, v3, v4, .int .i64 fl.2.2.2.2.2.1, .int .i64 fl.2.2.2.2.2.2.1, .int .i64 fl.2.2.2.2.2.2.2], .int .i64 at_, .int .i64 fin, .int .i64 e]) ∧ Row0 w v2 fl.2.2.1 ∧ Row0 w v3 fl.2.2.2.1 ∧ Row0 w v4 fl.2.2.2.2.1 ∧ Below w.heap.size w w'
def noFlds : Hr.Flds := (0, 0, [], [], [], 0, 0, 0)
theorem Inn.only {w0 w w' : World} {rb : Nat} {A : Option Addr} {c : Nat} {l : List Int} {p : Nat} {e : Int} (h : Inn w0 w rb A c l p e) {b : Nat} (ho : Only (fun k => k = b) w w') (hb : b ≠ rb) (h0 : w0.heap.size ≤ b) : Inn w0 w' rb A c l p e :=
  ⟨ho.cell (ad := ⟨rb, 0, none⟩) (fun e => hb e.symm) h.c0, ho.cell (ad := ⟨rb, 1, none⟩) (fun e => hb e.symm) h.c1, ho.cell (ad := ⟨rb, 2, none⟩) (fun e => hb e.symm) h.c2, (World.frozen?_of_block (ho.block rb h.lt (fun e => hb e.symm))).trans h.f1, (World.frozen?_of_block (ho.block rb h.lt (fun e => hb e.symm))).trans h.f2, h.lo, h.bl.trans (ho.below h.bl.size (fun k e => by subst e; exact h0)), h.C, h.lc, h.lm, h.pl, h.by_⟩
def RefEnd (w : World) (fl : Hr.Flds) (at_ fin e : Int) (en : Ending) (w' : World) : Prop := (e = 0 ∧ RefPost w fl at_ fin 0 en w') ∨ (e ≠ 0 ∧ RefPost w noFlds 0 0 e en w')
theorem put8_hk {w : World} {b : Nat} {z0 z1 z2 z3 z4 z5 z6 z7 : Value} (h : Hk w b [z0, z1, z2, z3, z4, z5, z6, z7]) (v0 v1 v2 v3 v4 v5 v6 v7 : Value) : Hk (Hr.put8 w b v0 v1 v2 v3 v4 v5 v6 v7) b [v0, v1, v2, v3, v4, v5, v6, v7] :=
  (((((((h.set 0 v0).set 1 v1).set 2 v2).set 3 v3).set 4 v4).set 5 v5).set 6 v6).set 7 v7
set_option maxHeartbeats 4000000 in
set_option maxRecDepth 100000 in
theorem ref_short {w : World} {A : Option Addr} {c : Nat} {l : List Int} (hC : Kd.C (Kd.int .u8) w A l.length l) (hc : l.length ≤ c) (hl : l.length ≤ 100000) (hB : ∀ x ∈ l, 0 ≤ x ∧ x ≤ 255)
    (x1 x2 x3 : List Int) (p1 p2 p3 : Nat) (e1 e3 e4 f : Int) (h1 : bytesS l 0 0 1 = (x1, p1, e1)) (hf : numF x1 = f) (h0 : 0 ≤ f) (hlt : f < 192)
    (h2 : bytesS l p1 (needE e1 (decide (64 ≤ f ∧ f < 72)) 3) 8 = (x2, p2, e3)) (h3 : bytesS l p2 e3 (f % 4 + 1).toNat = (x3, p3, e4)) :
    Calls Tryd.prog 6 #[.slice A l.length c] w (RefEnd w (3, 0, x2, [], [], f / 4 % 2, numF x3, f % 4 + 1) p3 l.length e4) := by
  have HI := iw_inn hC hc hl hB
  have HZ := Aside0.mk (iw_hk w A l.length c)
  have H := number_calls HI 1 (by omega)
  rw [h1, show numF (x1, p1, e1).1 = f from hf] at H
  have a4 : wrap64 (f % 4 + 1) = f % 4 + 1 := by unfold wrap64; omega
  have t1 : f.tmod 4 = f % 4 := Int.tmod_eq_emod_of_nonneg h0
  have u1 : wrap64 (f % 4) = f % 4 := by unfold wrap64; omega
  have d0 : decide (f < 192) = true := decide_eq_true hlt
  have t2 : f.tdiv 4 = f / 4 := Int.tdiv_eq_ediv_of_nonneg h0
  have t3 : (f / 4).tmod 2 = f / 4 % 2 := Int.tmod_eq_emod_of_nonneg (by omega)
  have u2 : wrap64 (f / 4) = f / 4 := by unfold wrap64; omega
  have u3 : wrap64 (f / 4 % 2) = f / 4 % 2 := by unfold wrap64; omega
  have HS3 := Aside0.mk h3
  have H0 := Aside0.mk (show 0 ≤ f ∧ f < 192 from ⟨h0, hlt⟩)
  obtain ⟨e2, he2⟩ : ∃ e2, needE e1 (decide (64 ≤ f ∧ f < 72)) 3 = e2 := ⟨_, rfl⟩
  rw [he2] at h2
  have HS2 := Aside0.mk h2
  have HE2 := Aside0.mk he2
  clear h2 h3 he2
  have HI0 := Aside0.mk HI
  clear hC hc hl hB h1 h0 hlt HI hf
  go_enter Tryd.func6, Tryd.ntmps6
  go_upto_region 2 with (fail)
  change Code.wp _ _ _ _ (iw w A l.length c)
  generalize iw w A l.length c = wi at *
  go_upto_region 6 with (go_at_call 14; refine H.mono ?_; rintro e2 w1 ⟨rfl, hr, ho⟩; have HO := Aside0.mk ho; have HR := Aside0.mk hr; clear ho hr)
  clear H
  have hz0 := HZ.out.lt
  have hrl := HI0.out.lt
  have hsz : w.heap.size + 1 < w1.heap.size := Nat.lt_of_lt_of_le hrl HO.out.size
  have hr1 := HR.out.below (w' := w1.alloc (.cells #[.int .i64 0, .int .i64 0, .slice none 0 0, .slice none 0 0, .slice none 0 0, .int .i64 0, .int .i64 0, .int .i64 (f % 4 + 1)] 28)) (below_alloc (Below.refl _ _) _)
  have hb1 := Hk.new w1 [.int .i64 0, .int .i64 0, .slice none 0 0, .slice none 0 0, .slice none 0 0, .int .i64 0, .int .i64 0, .int .i64 (f % 4 + 1)]
  have hz1 := (HZ.out.only HO.out (by omega)).only ((Only.refl (fun _ => False) w1).alloc (.cells #[.int .i64 0, .int .i64 0, .slice none 0 0, .slice none 0 0, .slice none 0 0, .int .i64 0, .int .i64 0, .int .i64 (f % 4 + 1)] 28)) (fun q => q)
  clear HO HR HZ HI0
  generalize w1.alloc (.cells #[.int .i64 0, .int .i64 0, .slice none 0 0, .slice none 0 0, .slice none 0 0, .int .i64 0, .int .i64 0, .int .i64 (f % 4 + 1)] 28) = w2 at *
  generalize w1.heap.size = hb at *
  obtain ⟨rb, hrb⟩ : ∃ rb, w.heap.size + 1 = rb := ⟨_, rfl⟩
  rw [hrb] at hr1 hsz ⊢
  have HL := Aside0.mk (show w.heap.size < rb ∧ rb < hb by omega)
  have R2 := Aside0.mk hr1
  have B2 := Aside0.mk hb1
  have Z2 := Aside0.mk hz1
  clear hr1 hb1 hz1 hsz hrb hz0 hrl w1
  by_cases k1 : 64 ≤ f
  rotate_left
  · have c1 : decide (64 ≤ f) = false := decide_eq_false k1
    have he2 : needE e1 false 3 = e2 := (congrArg (needE e1 · 3) (decide_eq_false (fun h => k1 h.1))).symm.trans HE2.out
    go_upto_region 7 with (go_at_call 15; refine (he2 ▸ need_calls R2.out false 3).mono ?_; rintro e9 w3 ⟨rfl, hr, ho⟩; have HO := Aside0.mk ho; have R3 := Aside0.mk hr; have hb9 := B2.out.only ho (by have := HL.out; omega); have B3 := Aside0.mk hb9; have Z3 := Aside0.mk (Z2.out.only ho (by have := HL.out; omega)); have q0 := hb9.cell 0 _ rfl; have g0 := hb9.frozen 0; have q5 := hb9.cell 5 _ rfl; have g5 := hb9.frozen 5; clear hb9 ho hr)
    clear R2 B2 Z2 HO
    go_upto_region 8 with (fail)
    clear q0 q5 g0 g5
    have R4 := Aside0.mk ((R3.out.far (a := ⟨hb, 0, none⟩) (by have := HL.out; show hb ≠ rb; omega) (by have := HL.out; show w.heap.size ≤ hb; omega) (.int .i64 3)).far (a := ⟨hb, 5, none⟩) (by have := HL.out; show hb ≠ rb; omega) (by have := HL.out; show w.heap.size ≤ hb; omega) (.int .i64 (f / 4 % 2)))
    have B4 := Aside0.mk ((B3.out.set 0 (.int .i64 3)).set 5 (.int .i64 (f / 4 % 2)))
    have Z4 := Aside0.mk ((Z3.out.far (a := ⟨hb, 0, none⟩) (by have := HL.out; show hb ≠ w.heap.size; omega) (.int .i64 3)).far (a := ⟨hb, 5, none⟩) (by have := HL.out; show hb ≠ w.heap.size; omega) (.int .i64 (f / 4 % 2)))
    clear R3 B3 Z3
    generalize (w3.setCell ⟨hb, 0, none⟩ (.int .i64 3)).setCell ⟨hb, 5, none⟩ (.int .i64 (f / 4 % 2)) = w4 at *
    have HB := bytes_calls R4.out 8 (by omega)
    rw [HS2.out] at HB
    go_upto_region 9 with (go_at_call 16; refine HB.mono ?_; rintro e9 w5 ⟨v9, rfl, ⟨A2, c2, e9, hrC, hrL⟩, hr, ho⟩; obtain ⟨n2, hn9⟩ : ∃ n, x2.length = n := ⟨_, rfl⟩; have W2 := Aside0.mk (show Row0 w (.slice A2 n2 c2) x2 from ⟨A2, c2, by rw [hn9], hrC, hrL⟩); obtain rfl : v9 = .slice A2 n2 c2 := e9.trans (by rw [← hn9]); clear hrC hrL hn9 e9; have HO := Aside0.mk ho; have R5 := Aside0.mk hr; have hb9 := B4.out.only ho (by have := HL.out; omega); have B5 := Aside0.mk hb9; have Z5 := Aside0.mk (Z4.out.only ho (by have := HL.out; omega)); have q2 := hb9.cell 2 _ rfl; have g2 := hb9.frozen 2; clear hb9 ho hr)
    clear HB R4 B4 Z4 HO q2 g2
    have R6 := Aside0.mk (R5.out.far (a := ⟨hb, 2, none⟩) (by have := HL.out; show hb ≠ rb; omega) (by have := HL.out; show w.heap.size ≤ hb; omega) (.slice A2 n2 c2))
    have B6 := Aside0.mk (B5.out.set 2 (.slice A2 n2 c2))
    have Z6 := Aside0.mk (Z5.out.far (a := ⟨hb, 2, none⟩) (by have := HL.out; show hb ≠ w.heap.size; omega) (.slice A2 n2 c2))
    clear R5 B5 Z5
    generalize w5.setCell ⟨hb, 2, none⟩ (.slice A2 n2 c2) = w6 at *
    have q7 := B6.out.cell 7 _ rfl
    have HN0 := H0.out
    have HB := number_calls R6.out (f % 4 + 1).toNat (by omega)
    rw [HS3.out, Int.toNat_of_nonneg (by omega)] at HB
    clear HN0
    go_upto_region 23 with (go_at_call 14; refine HB.mono ?_; rintro e9 w7 ⟨rfl, hr, ho⟩;  have HO := Aside0.mk ho; have R7 := Aside0.mk hr; have hb9 := B6.out.only ho (by have := HL.out; omega); have B7 := Aside0.mk hb9; have Z7 := Aside0.mk (Z6.out.only ho (by have := HL.out; omega)); have q6 := hb9.cell 6 _ rfl; have g6 := hb9.frozen 6; clear hb9 ho hr)
    clear HB R6 B6 Z6 HO q6 g6
    clear q7
    have R8 := Aside0.mk (R7.out.far (a := ⟨hb, 6, none⟩) (by have := HL.out; show hb ≠ rb; omega) (by have := HL.out; show w.heap.size ≤ hb; omega) (.int .i64 (numF x3)))
    have B8 := Aside0.mk (B7.out.set 6 (.int .i64 (numF x3)))
    have Z8 := Aside0.mk (Z7.out.far (a := ⟨hb, 6, none⟩) (by have := HL.out; show hb ≠ w.heap.size; omega) (.int .i64 (numF x3)))
    clear R7 B7 Z7
    generalize w7.setCell ⟨hb, 6, none⟩ (.int .i64 (numF x3)) = w8 at *
    by_cases he : e4 = 0
    · subst he
      have rr2 := R8.out.c2
      have b0 := B8.out.cell 0 _ rfl
      have b1 := B8.out.cell 1 _ rfl
      have b2 := B8.out.cell 2 _ rfl
      have b3 := B8.out.cell 3 _ rfl
      have b4 := B8.out.cell 4 _ rfl
      have b5 := B8.out.cell 5 _ rfl
      have b6 := B8.out.cell 6 _ rfl
      have b7 := B8.out.cell 7 _ rfl
      have z0 := Z8.out.cell 0 _ rfl
      have z1 := Z8.out.cell 1 _ rfl
      have z2 := Z8.out.cell 2 _ rfl
      have z3 := Z8.out.cell 3 _ rfl
      have z4 := Z8.out.cell 4 _ rfl
      have z5 := Z8.out.cell 5 _ rfl
      have z6 := Z8.out.cell 6 _ rfl
      have z7 := Z8.out.cell 7 _ rfl
      have y0 := Z8.out.frozen 0
      have y1 := Z8.out.frozen 1
      have y2 := Z8.out.frozen 2
      have y3 := Z8.out.frozen 3
      have y4 := Z8.out.frozen 4
      have y5 := Z8.out.frozen 5
      have y6 := Z8.out.frozen 6
      have y7 := Z8.out.frozen 7
      have r1 := R8.out.c1
      have r2 := R8.out.c2
      have zn1 : ¬ (rb = w.heap.size) := by have := HL.out; omega
      have zn2 : ¬ (w.heap.size = rb) := by have := HL.out; omega
      have zn3 : ¬ (hb = w.heap.size) := by have := HL.out; omega
      have zn4 : ¬ (w.heap.size = hb) := by have := HL.out; omega
      go_wp2
      go_region
      change Exit.then _ _ Exit.normal _ (Hr.put8 w8 w.heap.size (.int .i64 3) (.int .i64 0) (.slice A2 n2 c2) (.slice none 0 0) (.slice none 0 0) (.int .i64 (f / 4 % 2)) (.int .i64 (numF x3)) (.int .i64 (f % 4 + 1))).drew
      have o8 := Hr.put8_only w8 w.heap.size (.int .i64 3) (.int .i64 0) (.slice A2 n2 c2) (.slice none 0 0) (.slice none 0 0) (.int .i64 (f / 4 % 2)) (.int .i64 (numF x3)) (.int .i64 (f % 4 + 1))
      have R9 := (R8.out.only o8 (by have := HL.out; omega) (Nat.le_refl _)).bl
      have B8 := (put8_hk Z8.out (.int .i64 3) (.int .i64 0) (.slice A2 n2 c2) (.slice none 0 0) (.slice none 0 0) (.int .i64 (f / 4 % 2)) (.int .i64 (numF x3)) (.int .i64 (f % 4 + 1))).only ((Only.refl (fun _ => False) _).drew) (fun q => q)
      have R8 := below_drew1 R9
      clear b0 b1 b2 b3 b4 b5 b6 b7 z0 z1 z2 z3 z4 z5 z6 z7 y0 y1 y2 y3 y4 y5 y6 y7 r1 r2 zn1 zn2 zn3 zn4 o8 R9
      generalize (Hr.put8 w8 w.heap.size (.int .i64 3) (.int .i64 0) (.slice A2 n2 c2) (.slice none 0 0) (.slice none 0 0) (.int .i64 (f / 4 % 2)) (.int .i64 (numF x3)) (.int .i64 (f % 4 + 1))).drew = w99 at *
      have xx0 := B8.cell 0 _ rfl
      have xx1 := B8.cell 1 _ rfl
      have xx2 := B8.cell 2 _ rfl
      have xx3 := B8.cell 3 _ rfl
      have xx4 := B8.cell 4 _ rfl
      have xx5 := B8.cell 5 _ rfl
      have xx6 := B8.cell 6 _ rfl
      have xx7 := B8.cell 7 _ rfl
      clear B8
      have R88 := Aside0.mk R8
      clear R8
      go_wp2
      refine bodyPost_ret (v := .tuple #[.agg #[.int .i64 3, .int .i64 0, .slice A2 n2 c2, .slice none 0 0, .slice none 0 0, .int .i64 (f / 4 % 2), .int .i64 (numF x3), .int .i64 (f % 4 + 1)], .int .i64 p3, .int .i64 l.length, .int .i64 0]) ?_ rfl ?_
      · simp [results, Tryd.results6, go_sem, xx0, xx1, xx2, xx3, xx4, xx5, xx6, xx7]
      · exact .inl ⟨rfl, _, _, _, rfl, W2.out, row0_nil _, row0_nil _, R88.out⟩
    · have HE := Aside0.mk he
      have d1 : (e4 == 0) = false := by simpa using he
      have d2 : decide (e4 = 0) = false := decide_eq_false he
      clear he
      have rr2 := R8.out.c2
      have b0 := B8.out.cell 0 _ rfl
      have b1 := B8.out.cell 1 _ rfl
      have b2 := B8.out.cell 2 _ rfl
      have b3 := B8.out.cell 3 _ rfl
      have b4 := B8.out.cell 4 _ rfl
      have b5 := B8.out.cell 5 _ rfl
      have b6 := B8.out.cell 6 _ rfl
      have b7 := B8.out.cell 7 _ rfl
      have z0 := Z8.out.cell 0 _ rfl
      have z1 := Z8.out.cell 1 _ rfl
      have z2 := Z8.out.cell 2 _ rfl
      have z3 := Z8.out.cell 3 _ rfl
      have z4 := Z8.out.cell 4 _ rfl
      have z5 := Z8.out.cell 5 _ rfl
      have z6 := Z8.out.cell 6 _ rfl
      have z7 := Z8.out.cell 7 _ rfl
      have y0 := Z8.out.frozen 0
      have y1 := Z8.out.frozen 1
      have y2 := Z8.out.frozen 2
      have y3 := Z8.out.frozen 3
      have y4 := Z8.out.frozen 4
      have y5 := Z8.out.frozen 5
      have y6 := Z8.out.frozen 6
      have y7 := Z8.out.frozen 7
      have r1 := R8.out.c1
      have r2 := R8.out.c2
      have zn1 : ¬ (rb = w.heap.size) := by have := HL.out; omega
      have zn2 : ¬ (w.heap.size = rb) := by have := HL.out; omega
      have zn3 : ¬ (hb = w.heap.size) := by have := HL.out; omega
      have zn4 : ¬ (w.heap.size = hb) := by have := HL.out; omega
      go_wp2
      go_region
      change Exit.then _ _ Exit.normal _ (Hr.put8 w8 w.heap.size (.int .i64 0) (.int .i64 0) (.slice none 0 0) (.slice none 0 0) (.slice none 0 0) (.int .i64 0) (.int .i64 0) (.int .i64 0)).drew
      have o8 := Hr.put8_only w8 w.heap.size (.int .i64 0) (.int .i64 0) (.slice none 0 0) (.slice none 0 0) (.slice none 0 0) (.int .i64 0) (.int .i64 0) (.int .i64 0)
      have R9 := (R8.out.only o8 (by have := HL.out; omega) (Nat.le_refl _)).bl
      have B8 := (put8_hk Z8.out (.int .i64 0) (.int .i64 0) (.slice none 0 0) (.slice none 0 0) (.slice none 0 0) (.int .i64 0) (.int .i64 0) (.int .i64 0)).only ((Only.refl (fun _ => False) _).drew) (fun q => q)
      have R8 := below_drew1 R9
      clear b0 b1 b2 b3 b4 b5 b6 b7 z0 z1 z2 z3 z4 z5 z6 z7 y0 y1 y2 y3 y4 y5 y6 y7 r1 r2 zn1 zn2 zn3 zn4 o8 R9
      generalize (Hr.put8 w8 w.heap.size (.int .i64 0) (.int .i64 0) (.slice none 0 0) (.slice none 0 0) (.slice none 0 0) (.int .i64 0) (.int .i64 0) (.int .i64 0)).drew = w99 at *
      have xx0 := B8.cell 0 _ rfl
      have xx1 := B8.cell 1 _ rfl
      have xx2 := B8.cell 2 _ rfl
      have xx3 := B8.cell 3 _ rfl
      have xx4 := B8.cell 4 _ rfl
      have xx5 := B8.cell 5 _ rfl
      have xx6 := B8.cell 6 _ rfl
      have xx7 := B8.cell 7 _ rfl
      clear B8
      have R88 := Aside0.mk R8
      clear R8
      go_wp2
      refine bodyPost_ret (v := .tuple #[.agg #[.int .i64 0, .int .i64 0, .slice none 0 0, .slice none 0 0, .slice none 0 0, .int .i64 0, .int .i64 0, .int .i64 0], .int .i64 0, .int .i64 0, .int .i64 e4]) ?_ rfl ?_
      · simp [results, Tryd.results6, go_sem, xx0, xx1, xx2, xx3, xx4, xx5, xx6, xx7]
      · exact .inr ⟨HE.out, _, _, _, rfl, row0_nil _, row0_nil _, row0_nil _, R88.out⟩
  have c1 : decide (64 ≤ f) = true := decide_eq_true k1
  by_cases k2 : f < 72
  · have c2 : decide (f < 72) = true := decide_eq_true k2
    have he2 : needE e1 true 3 = e2 := (congrArg (needE e1 · 3) (decide_eq_true (show 64 ≤ f ∧ f < 72 from ⟨k1, k2⟩))).symm.trans HE2.out
    go_upto_region 7 with (go_at_call 15; refine (he2 ▸ need_calls R2.out true 3).mono ?_; rintro e9 w3 ⟨rfl, hr, ho⟩; have HO := Aside0.mk ho; have R3 := Aside0.mk hr; have hb9 := B2.out.only ho (by have := HL.out; omega); have B3 := Aside0.mk hb9; have Z3 := Aside0.mk (Z2.out.only ho (by have := HL.out; omega)); have q0 := hb9.cell 0 _ rfl; have g0 := hb9.frozen 0; have q5 := hb9.cell 5 _ rfl; have g5 := hb9.frozen 5; clear hb9 ho hr)
    clear R2 B2 Z2 HO
    go_upto_region 8 with (fail)
    clear q0 q5 g0 g5
    have R4 := Aside0.mk ((R3.out.far (a := ⟨hb, 0, none⟩) (by have := HL.out; show hb ≠ rb; omega) (by have := HL.out; show w.heap.size ≤ hb; omega) (.int .i64 3)).far (a := ⟨hb, 5, none⟩) (by have := HL.out; show hb ≠ rb; omega) (by have := HL.out; show w.heap.size ≤ hb; omega) (.int .i64 (f / 4 % 2)))
    have B4 := Aside0.mk ((B3.out.set 0 (.int .i64 3)).set 5 (.int .i64 (f / 4 % 2)))
    have Z4 := Aside0.mk ((Z3.out.far (a := ⟨hb, 0, none⟩) (by have := HL.out; show hb ≠ w.heap.size; omega) (.int .i64 3)).far (a := ⟨hb, 5, none⟩) (by have := HL.out; show hb ≠ w.heap.size; omega) (.int .i64 (f / 4 % 2)))
    clear R3 B3 Z3
    generalize (w3.setCell ⟨hb, 0, none⟩ (.int .i64 3)).setCell ⟨hb, 5, none⟩ (.int .i64 (f / 4 % 2)) = w4 at *
    have HB := bytes_calls R4.out 8 (by omega)
    rw [HS2.out] at HB
    go_upto_region 9 with (go_at_call 16; refine HB.mono ?_; rintro e9 w5 ⟨v9, rfl, ⟨A2, c2, e9, hrC, hrL⟩, hr, ho⟩; obtain ⟨n2, hn9⟩ : ∃ n, x2.length = n := ⟨_, rfl⟩; have W2 := Aside0.mk (show Row0 w (.slice A2 n2 c2) x2 from ⟨A2, c2, by rw [hn9], hrC, hrL⟩); obtain rfl : v9 = .slice A2 n2 c2 := e9.trans (by rw [← hn9]); clear hrC hrL hn9 e9; have HO := Aside0.mk ho; have R5 := Aside0.mk hr; have hb9 := B4.out.only ho (by have := HL.out; omega); have B5 := Aside0.mk hb9; have Z5 := Aside0.mk (Z4.out.only ho (by have := HL.out; omega)); have q2 := hb9.cell 2 _ rfl; have g2 := hb9.frozen 2; clear hb9 ho hr)
    clear HB R4 B4 Z4 HO q2 g2
    have R6 := Aside0.mk (R5.out.far (a := ⟨hb, 2, none⟩) (by have := HL.out; show hb ≠ rb; omega) (by have := HL.out; show w.heap.size ≤ hb; omega) (.slice A2 n2 c2))
    have B6 := Aside0.mk (B5.out.set 2 (.slice A2 n2 c2))
    have Z6 := Aside0.mk (Z5.out.far (a := ⟨hb, 2, none⟩) (by have := HL.out; show hb ≠ w.heap.size; omega) (.slice A2 n2 c2))
    clear R5 B5 Z5
    generalize w5.setCell ⟨hb, 2, none⟩ (.slice A2 n2 c2) = w6 at *
    have q7 := B6.out.cell 7 _ rfl
    have HN0 := H0.out
    have HB := number_calls R6.out (f % 4 + 1).toNat (by omega)
    rw [HS3.out, Int.toNat_of_nonneg (by omega)] at HB
    clear HN0
    go_upto_region 23 with (go_at_call 14; refine HB.mono ?_; rintro e9 w7 ⟨rfl, hr, ho⟩;  have HO := Aside0.mk ho; have R7 := Aside0.mk hr; have hb9 := B6.out.only ho (by have := HL.out; omega); have B7 := Aside0.mk hb9; have Z7 := Aside0.mk (Z6.out.only ho (by have := HL.out; omega)); have q6 := hb9.cell 6 _ rfl; have g6 := hb9.frozen 6; clear hb9 ho hr)
    clear HB R6 B6 Z6 HO q6 g6
    clear q7
    have R8 := Aside0.mk (R7.out.far (a := ⟨hb, 6, none⟩) (by have := HL.out; show hb ≠ rb; omega) (by have := HL.out; show w.heap.size ≤ hb; omega) (.int .i64 (numF x3)))
    have B8 := Aside0.mk (B7.out.set 6 (.int .i64 (numF x3)))
    have Z8 := Aside0.mk (Z7.out.far (a := ⟨hb, 6, none⟩) (by have := HL.out; show hb ≠ w.heap.size; omega) (.int .i64 (numF x3)))
    clear R7 B7 Z7
    generalize w7.setCell ⟨hb, 6, none⟩ (.int .i64 (numF x3)) = w8 at *
    by_cases he : e4 = 0
    · subst he
      have rr2 := R8.out.c2
      have b0 := B8.out.cell 0 _ rfl
      have b1 := B8.out.cell 1 _ rfl
      have b2 := B8.out.cell 2 _ rfl
      have b3 := B8.out.cell 3 _ rfl
      have b4 := B8.out.cell 4 _ rfl
      have b5 := B8.out.cell 5 _ rfl
      have b6 := B8.out.cell 6 _ rfl
      have b7 := B8.out.cell 7 _ rfl
      have z0 := Z8.out.cell 0 _ rfl
      have z1 := Z8.out.cell 1 _ rfl
      have z2 := Z8.out.cell 2 _ rfl
      have z3 := Z8.out.cell 3 _ rfl
      have z4 := Z8.out.cell 4 _ rfl
      have z5 := Z8.out.cell 5 _ rfl
      have z6 := Z8.out.cell 6 _ rfl
      have z7 := Z8.out.cell 7 _ rfl
      have y0 := Z8.out.frozen 0
      have y1 := Z8.out.frozen 1
      have y2 := Z8.out.frozen 2
      have y3 := Z8.out.frozen 3
      have y4 := Z8.out.frozen 4
      have y5 := Z8.out.frozen 5
      have y6 := Z8.out.frozen 6
      have y7 := Z8.out.frozen 7
      have r1 := R8.out.c1
      have r2 := R8.out.c2
      have zn1 : ¬ (rb = w.heap.size) := by have := HL.out; omega
      have zn2 : ¬ (w.heap.size = rb) := by have := HL.out; omega
      have zn3 : ¬ (hb = w.heap.size) := by have := HL.out; omega
      have zn4 : ¬ (w.heap.size = hb) := by have := HL.out; omega
      go_wp2
      go_region
      change Exit.then _ _ Exit.normal _ (Hr.put8 w8 w.heap.size (.int .i64 3) (.int .i64 0) (.slice A2 n2 c2) (.slice none 0 0) (.slice none 0 0) (.int .i64 (f / 4 % 2)) (.int .i64 (numF x3)) (.int .i64 (f % 4 + 1))).drew
      have o8 := Hr.put8_only w8 w.heap.size (.int .i64 3) (.int .i64 0) (.slice A2 n2 c2) (.slice none 0 0) (.slice none 0 0) (.int .i64 (f / 4 % 2)) (.int .i64 (numF x3)) (.int .i64 (f % 4 + 1))
      have R9 := (R8.out.only o8 (by have := HL.out; omega) (Nat.le_refl _)).bl
      have B8 := (put8_hk Z8.out (.int .i64 3) (.int .i64 0) (.slice A2 n2 c2) (.slice none 0 0) (.slice none 0 0) (.int .i64 (f / 4 % 2)) (.int .i64 (numF x3)) (.int .i64 (f % 4 + 1))).only ((Only.refl (fun _ => False) _).drew) (fun q => q)
      have R8 := below_drew1 R9
      clear b0 b1 b2 b3 b4 b5 b6 b7 z0 z1 z2 z3 z4 z5 z6 z7 y0 y1 y2 y3 y4 y5 y6 y7 r1 r2 zn1 zn2 zn3 zn4 o8 R9
      generalize (Hr.put8 w8 w.heap.size (.int .i64 3) (.int .i64 0) (.slice A2 n2 c2) (.slice none 0 0) (.slice none 0 0) (.int .i64 (f / 4 % 2)) (.int .i64 (numF x3)) (.int .i64 (f % 4 + 1))).drew = w99 at *
      have xx0 := B8.cell 0 _ rfl
      have xx1 := B8.cell 1 _ rfl
      have xx2 := B8.cell 2 _ rfl
      have xx3 := B8.cell 3 _ rfl
      have xx4 := B8.cell 4 _ rfl
      have xx5 := B8.cell 5 _ rfl
      have xx6 := B8.cell 6 _ rfl
      have xx7 := B8.cell 7 _ rfl
      clear B8
      have R88 := Aside0.mk R8
      clear R8
      go_wp2
      refine bodyPost_ret (v := .tuple #[.agg #[.int .i64 3, .int .i64 0, .slice A2 n2 c2, .slice none 0 0, .slice none 0 0, .int .i64 (f / 4 % 2), .int .i64 (numF x3), .int .i64 (f % 4 + 1)], .int .i64 p3, .int .i64 l.length, .int .i64 0]) ?_ rfl ?_
      · simp [results, Tryd.results6, go_sem, xx0, xx1, xx2, xx3, xx4, xx5, xx6, xx7]
      · exact .inl ⟨rfl, _, _, _, rfl, W2.out, row0_nil _, row0_nil _, R88.out⟩
    · have HE := Aside0.mk he
      have d1 : (e4 == 0) = false := by simpa using he
      have d2 : decide (e4 = 0) = false := decide_eq_false he
      clear he
      have rr2 := R8.out.c2
      have b0 := B8.out.cell 0 _ rfl
      have b1 := B8.out.cell 1 _ rfl
      have b2 := B8.out.cell 2 _ rfl
      have b3 := B8.out.cell 3 _ rfl
      have b4 := B8.out.cell 4 _ rfl
      have b5 := B8.out.cell 5 _ rfl
      have b6 := B8.out.cell 6 _ rfl
      have b7 := B8.out.cell 7 _ rfl
      have z0 := Z8.out.cell 0 _ rfl
      have z1 := Z8.out.cell 1 _ rfl
      have z2 := Z8.out.cell 2 _ rfl
      have z3 := Z8.out.cell 3 _ rfl
      have z4 := Z8.out.cell 4 _ rfl
      have z5 := Z8.out.cell 5 _ rfl
      have z6 := Z8.out.cell 6 _ rfl
      have z7 := Z8.out.cell 7 _ rfl
      have y0 := Z8.out.frozen 0
      have y1 := Z8.out.frozen 1
      have y2 := Z8.out.frozen 2
      have y3 := Z8.out.frozen 3
      have y4 := Z8.out.frozen 4
      have y5 := Z8.out.frozen 5
      have y6 := Z8.out.frozen 6
      have y7 := Z8.out.frozen 7
      have r1 := R8.out.c1
      have r2 := R8.out.c2
      have zn1 : ¬ (rb = w.heap.size) := by have := HL.out; omega
      have zn2 : ¬ (w.heap.size = rb) := by have := HL.out; omega
      have zn3 : ¬ (hb = w.heap.size) := by have := HL.out; omega
      have zn4 : ¬ (w.heap.size = hb) := by have := HL.out; omega
      go_wp2
      go_region
      change Exit.then _ _ Exit.normal _ (Hr.put8 w8 w.heap.size (.int .i64 0) (.int .i64 0) (.slice none 0 0) (.slice none 0 0) (.slice none 0 0) (.int .i64 0) (.int .i64 0) (.int .i64 0)).drew
      have o8 := Hr.put8_only w8 w.heap.size (.int .i64 0) (.int .i64 0) (.slice none 0 0) (.slice none 0 0) (.slice none 0 0) (.int .i64 0) (.int .i64 0) (.int .i64 0)
      have R9 := (R8.out.only o8 (by have := HL.out; omega) (Nat.le_refl _)).bl
      have B8 := (put8_hk Z8.out (.int .i64 0) (.int .i64 0) (.slice none 0 0) (.slice none 0 0) (.slice none 0 0) (.int .i64 0) (.int .i64 0) (.int .i64 0)).only ((Only.refl (fun _ => False) _).drew) (fun q => q)
      have R8 := below_drew1 R9
      clear b0 b1 b2 b3 b4 b5 b6 b7 z0 z1 z2 z3 z4 z5 z6 z7 y0 y1 y2 y3 y4 y5 y6 y7 r1 r2 zn1 zn2 zn3 zn4 o8 R9
      generalize (Hr.put8 w8 w.heap.size (.int .i64 0) (.int .i64 0) (.slice none 0 0) (.slice none 0 0) (.slice none 0 0) (.int .i64 0) (.int .i64 0) (.int .i64 0)).drew = w99 at *
      have xx0 := B8.cell 0 _ rfl
      have xx1 := B8.cell 1 _ rfl
      have xx2 := B8.cell 2 _ rfl
      have xx3 := B8.cell 3 _ rfl
      have xx4 := B8.cell 4 _ rfl
      have xx5 := B8.cell 5 _ rfl
      have xx6 := B8.cell 6 _ rfl
      have xx7 := B8.cell 7 _ rfl
      clear B8
      have R88 := Aside0.mk R8
      clear R8
      go_wp2
      refine bodyPost_ret (v := .tuple #[.agg #[.int .i64 0, .int .i64 0, .slice none 0 0, .slice none 0 0, .slice none 0 0, .int .i64 0, .int .i64 0, .int .i64 0], .int .i64 0, .int .i64 0, .int .i64 e4]) ?_ rfl ?_
      · simp [results, Tryd.results6, go_sem, xx0, xx1, xx2, xx3, xx4, xx5, xx6, xx7]
      · exact .inr ⟨HE.out, _, _, _, rfl, row0_nil _, row0_nil _, row0_nil _, R88.out⟩
  · have c2 : decide (f < 72) = false := decide_eq_false k2
    have he2 : needE e1 false 3 = e2 := (congrArg (needE e1 · 3) (decide_eq_false (fun h => k2 h.2))).symm.trans HE2.out
    go_upto_region 7 with (go_at_call 15; refine (he2 ▸ need_calls R2.out false 3).mono ?_; rintro e9 w3 ⟨rfl, hr, ho⟩; have HO := Aside0.mk ho; have R3 := Aside0.mk hr; have hb9 := B2.out.only ho (by have := HL.out; omega); have B3 := Aside0.mk hb9; have Z3 := Aside0.mk (Z2.out.only ho (by have := HL.out; omega)); have q0 := hb9.cell 0 _ rfl; have g0 := hb9.frozen 0; have q5 := hb9.cell 5 _ rfl; have g5 := hb9.frozen 5; clear hb9 ho hr)
    clear R2 B2 Z2 HO
    go_upto_region 8 with (fail)
    clear q0 q5 g0 g5
    have R4 := Aside0.mk ((R3.out.far (a := ⟨hb, 0, none⟩) (by have := HL.out; show hb ≠ rb; omega) (by have := HL.out; show w.heap.size ≤ hb; omega) (.int .i64 3)).far (a := ⟨hb, 5, none⟩) (by have := HL.out; show hb ≠ rb; omega) (by have := HL.out; show w.heap.size ≤ hb; omega) (.int .i64 (f / 4 % 2)))
    have B4 := Aside0.mk ((B3.out.set 0 (.int .i64 3)).set 5 (.int .i64 (f / 4 % 2)))
    have Z4 := Aside0.mk ((Z3.out.far (a := ⟨hb, 0, none⟩) (by have := HL.out; show hb ≠ w.heap.size; omega) (.int .i64 3)).far (a := ⟨hb, 5, none⟩) (by have := HL.out; show hb ≠ w.heap.size; omega) (.int .i64 (f / 4 % 2)))
    clear R3 B3 Z3
    generalize (w3.setCell ⟨hb, 0, none⟩ (.int .i64 3)).setCell ⟨hb, 5, none⟩ (.int .i64 (f / 4 % 2)) = w4 at *
    have HB := bytes_calls R4.out 8 (by omega)
    rw [HS2.out] at HB
    go_upto_region 9 with (go_at_call 16; refine HB.mono ?_; rintro e9 w5 ⟨v9, rfl, ⟨A2, c2, e9, hrC, hrL⟩, hr, ho⟩; obtain ⟨n2, hn9⟩ : ∃ n, x2.length = n := ⟨_, rfl⟩; have W2 := Aside0.mk (show Row0 w (.slice A2 n2 c2) x2 from ⟨A2, c2, by rw [hn9], hrC, hrL⟩); obtain rfl : v9 = .slice A2 n2 c2 := e9.trans (by rw [← hn9]); clear hrC hrL hn9 e9; have HO := Aside0.mk ho; have R5 := Aside0.mk hr; have hb9 := B4.out.only ho (by have := HL.out; omega); have B5 := Aside0.mk hb9; have Z5 := Aside0.mk (Z4.out.only ho (by have := HL.out; omega)); have q2 := hb9.cell 2 _ rfl; have g2 := hb9.frozen 2; clear hb9 ho hr)
    clear HB R4 B4 Z4 HO q2 g2
    have R6 := Aside0.mk (R5.out.far (a := ⟨hb, 2, none⟩) (by have := HL.out; show hb ≠ rb; omega) (by have := HL.out; show w.heap.size ≤ hb; omega) (.slice A2 n2 c2))
    have B6 := Aside0.mk (B5.out.set 2 (.slice A2 n2 c2))
    have Z6 := Aside0.mk (Z5.out.far (a := ⟨hb, 2, none⟩) (by have := HL.out; show hb ≠ w.heap.size; omega) (.slice A2 n2 c2))
    clear R5 B5 Z5
    generalize w5.setCell ⟨hb, 2, none⟩ (.slice A2 n2 c2) = w6 at *
    have q7 := B6.out.cell 7 _ rfl
    have HN0 := H0.out
    have HB := number_calls R6.out (f % 4 + 1).toNat (by omega)
    rw [HS3.out, Int.toNat_of_nonneg (by omega)] at HB
    clear HN0
    go_upto_region 23 with (go_at_call 14; refine HB.mono ?_; rintro e9 w7 ⟨rfl, hr, ho⟩;  have HO := Aside0.mk ho; have R7 := Aside0.mk hr; have hb9 := B6.out.only ho (by have := HL.out; omega); have B7 := Aside0.mk hb9; have Z7 := Aside0.mk (Z6.out.only ho (by have := HL.out; omega)); have q6 := hb9.cell 6 _ rfl; have g6 := hb9.frozen 6; clear hb9 ho hr)
    clear HB R6 B6 Z6 HO q6 g6
    clear q7
    have R8 := Aside0.mk (R7.out.far (a := ⟨hb, 6, none⟩) (by have := HL.out; show hb ≠ rb; omega) (by have := HL.out; show w.heap.size ≤ hb; omega) (.int .i64 (numF x3)))
    have B8 := Aside0.mk (B7.out.set 6 (.int .i64 (numF x3)))
    have Z8 := Aside0.mk (Z7.out.far (a := ⟨hb, 6, none⟩) (by have := HL.out; show hb ≠ w.heap.size; omega) (.int .i64 (numF x3)))
    clear R7 B7 Z7
    generalize w7.setCell ⟨hb, 6, none⟩ (.int .i64 (numF x3)) = w8 at *
    by_cases he : e4 = 0
    · subst he
      have rr2 := R8.out.c2
      have b0 := B8.out.cell 0 _ rfl
      have b1 := B8.out.cell 1 _ rfl
      have b2 := B8.out.cell 2 _ rfl
      have b3 := B8.out.cell 3 _ rfl
      have b4 := B8.out.cell 4 _ rfl
      have b5 := B8.out.cell 5 _ rfl
      have b6 := B8.out.cell 6 _ rfl
      have b7 := B8.out.cell 7 _ rfl
      have z0 := Z8.out.cell 0 _ rfl
      have z1 := Z8.out.cell 1 _ rfl
      have z2 := Z8.out.cell 2 _ rfl
      have z3 := Z8.out.cell 3 _ rfl
      have z4 := Z8.out.cell 4 _ rfl
      have z5 := Z8.out.cell 5 _ rfl
      have z6 := Z8.out.cell 6 _ rfl
      have z7 := Z8.out.cell 7 _ rfl
      have y0 := Z8.out.frozen 0
      have y1 := Z8.out.frozen 1
      have y2 := Z8.out.frozen 2
      have y3 := Z8.out.frozen 3
      have y4 := Z8.out.frozen 4
      have y5 := Z8.out.frozen 5
      have y6 := Z8.out.frozen 6
      have y7 := Z8.out.frozen 7
      have r1 := R8.out.c1
      have r2 := R8.out.c2
      have zn1 : ¬ (rb = w.heap.size) := by have := HL.out; omega
      have zn2 : ¬ (w.heap.size = rb) := by have := HL.out; omega
      have zn3 : ¬ (hb = w.heap.size) := by have := HL.out; omega
      have zn4 : ¬ (w.heap.size = hb) := by have := HL.out; omega
      go_wp2
      go_region
      change Exit.then _ _ Exit.normal _ (Hr.put8 w8 w.heap.size (.int .i64 3) (.int .i64 0) (.slice A2 n2 c2) (.slice none 0 0) (.slice none 0 0) (.int .i64 (f / 4 % 2)) (.int .i64 (numF x3)) (.int .i64 (f % 4 + 1))).drew
      have o8 := Hr.put8_only w8 w.heap.size (.int .i64 3) (.int .i64 0) (.slice A2 n2 c2) (.slice none 0 0) (.slice none 0 0) (.int .i64 (f / 4 % 2)) (.int .i64 (numF x3)) (.int .i64 (f % 4 + 1))
      have R9 := (R8.out.only o8 (by have := HL.out; omega) (Nat.le_refl _)).bl
      have B8 := (put8_hk Z8.out (.int .i64 3) (.int .i64 0) (.slice A2 n2 c2) (.slice none 0 0) (.slice none 0 0) (.int .i64 (f / 4 % 2)) (.int .i64 (numF x3)) (.int .i64 (f % 4 + 1))).only ((Only.refl (fun _ => False) _).drew) (fun q => q)
      have R8 := below_drew1 R9
      clear b0 b1 b2 b3 b4 b5 b6 b7 z0 z1 z2 z3 z4 z5 z6 z7 y0 y1 y2 y3 y4 y5 y6 y7 r1 r2 zn1 zn2 zn3 zn4 o8 R9
      generalize (Hr.put8 w8 w.heap.size (.int .i64 3) (.int .i64 0) (.slice A2 n2 c2) (.slice none 0 0) (.slice none 0 0) (.int .i64 (f / 4 % 2)) (.int .i64 (numF x3)) (.int .i64 (f % 4 + 1))).drew = w99 at *
      have xx0 := B8.cell 0 _ rfl
      have xx1 := B8.cell 1 _ rfl
      have xx2 := B8.cell 2 _ rfl
      have xx3 := B8.cell 3 _ rfl
      have xx4 := B8.cell 4 _ rfl
      have xx5 := B8.cell 5 _ rfl
      have xx6 := B8.cell 6 _ rfl
      have xx7 := B8.cell 7 _ rfl
      clear B8
      have R88 := Aside0.mk R8
      clear R8
      go_wp2
      refine bodyPost_ret (v := .tuple #[.agg #[.int .i64 3, .int .i64 0, .slice A2 n2 c2, .slice none 0 0, .slice none 0 0, .int .i64 (f / 4 % 2), .int .i64 (numF x3), .int .i64 (f % 4 + 1)], .int .i64 p3, .int .i64 l.length, .int .i64 0]) ?_ rfl ?_
      · simp [results, Tryd.results6, go_sem, xx0, xx1, xx2, xx3, xx4, xx5, xx6, xx7]
      · exact .inl ⟨rfl, _, _, _, rfl, W2.out, row0_nil _, row0_nil _, R88.out⟩
    · have HE := Aside0.mk he
      have d1 : (e4 == 0) = false := by simpa using he
      have d2 : decide (e4 = 0) = false := decide_eq_false he
      clear he
      have rr2 := R8.out.c2
      have b0 := B8.out.cell 0 _ rfl
      have b1 := B8.out.cell 1 _ rfl
      have b2 := B8.out.cell 2 _ rfl
      have b3 := B8.out.cell 3 _ rfl
      have b4 := B8.out.cell 4 _ rfl
      have b5 := B8.out.cell 5 _ rfl
      have b6 := B8.out.cell 6 _ rfl
      have b7 := B8.out.cell 7 _ rfl
      have z0 := Z8.out.cell 0 _ rfl
      have z1 := Z8.out.cell 1 _ rfl
      have z2 := Z8.out.cell 2 _ rfl
      have z3 := Z8.out.cell 3 _ rfl
      have z4 := Z8.out.cell 4 _ rfl
      have z5 := Z8.out.cell 5 _ rfl
      have z6 := Z8.out.cell 6 _ rfl
      have z7 := Z8.out.cell 7 _ rfl
      have y0 := Z8.out.frozen 0
      have y1 := Z8.out.frozen 1
      have y2 := Z8.out.frozen 2
      have y3 := Z8.out.frozen 3
      have y4 := Z8.out.frozen 4
      have y5 := Z8.out.frozen 5
      have y6 := Z8.out.frozen 6
      have y7 := Z8.out.frozen 7
      have r1 := R8.out.c1
      have r2 := R8.out.c2
      have zn1 : ¬ (rb = w.heap.size) := by have := HL.out; omega
      have zn2 : ¬ (w.heap.size = rb) := by have := HL.out; omega
      have zn3 : ¬ (hb = w.heap.size) := by have := HL.out; omega
      have zn4 : ¬ (w.heap.size = hb) := by have := HL.out; omega
      go_wp2
      go_region
      change Exit.then _ _ Exit.normal _ (Hr.put8 w8 w.heap.size (.int .i64 0) (.int .i64 0) (.slice none 0 0) (.slice none 0 0) (.slice none 0 0) (.int .i64 0) (.int .i64 0) (.int .i64 0)).drew
      have o8 := Hr.put8_only w8 w.heap.size (.int .i64 0) (.int .i64 0) (.slice none 0 0) (.slice none 0 0) (.slice none 0 0) (.int .i64 0) (.int .i64 0) (.int .i64 0)
      have R9 := (R8.out.only o8 (by have := HL.out; omega) (Nat.le_refl _)).bl
      have B8 := (put8_hk Z8.out (.int .i64 0) (.int .i64 0) (.slice none 0 0) (.slice none 0 0) (.slice none 0 0) (.int .i64 0) (.int .i64 0) (.int .i64 0)).only ((Only.refl (fun _ => False) _).drew) (fun q => q)
      have R8 := below_drew1 R9
      clear b0 b1 b2 b3 b4 b5 b6 b7 z0 z1 z2 z3 z4 z5 z6 z7 y0 y1 y2 y3 y4 y5 y6 y7 r1 r2 zn1 zn2 zn3 zn4 o8 R9
      generalize (Hr.put8 w8 w.heap.size (.int .i64 0) (.int .i64 0) (.slice none 0 0) (.slice none 0 0) (.slice none 0 0) (.int .i64 0) (.int .i64 0) (.int .i64 0)).drew = w99 at *
      have xx0 := B8.cell 0 _ rfl
      have xx1 := B8.cell 1 _ rfl
      have xx2 := B8.cell 2 _ rfl
      have xx3 := B8.cell 3 _ rfl
      have xx4 := B8.cell 4 _ rfl
      have xx5 := B8.cell 5 _ rfl
      have xx6 := B8.cell 6 _ rfl
      have xx7 := B8.cell 7 _ rfl
      clear B8
      have R88 := Aside0.mk R8
      clear R8
      go_wp2
      refine bodyPost_ret (v := .tuple #[.agg #[.int .i64 0, .int .i64 0, .slice none 0 0, .slice none 0 0, .slice none 0 0, .int .i64 0, .int .i64 0, .int .i64 0], .int .i64 0, .int .i64 0, .int .i64 e4]) ?_ rfl ?_
      · simp [results, Tryd.results6, go_sem, xx0, xx1, xx2, xx3, xx4, xx5, xx6, xx7]
      · exact .inr ⟨HE.out, _, _, _, rfl, row0_nil _, row0_nil _, row0_nil _, R88.out⟩
end Go.Proofs.YtpihkmpcnkhnfaaDoor.Ri
namespace Go.Proofs.YtpihkmpcnkhnfaaDoor.Ri
open Go Go.RowKit Go.Proofs.YtpihkmpcnkhnfaaDoorW.PrintWords Go.Proofs.YtpihkmpcnkhnfaaDoorW.PrintLast Go.Proofs.YtpihkmpcnkhnfaaDoorW.PrintMore
open Go.Proofs.YtpihkmpcnkhnfaaDoor.Onl (Only)
open Go.Proofs.YtpihkmpcnkhnfaaDoor.Hr (numF numF_snoc numF_bd info5)
set_option linter.unusedVariables false
set_option linter.unusedSimpArgs false
theorem varS_bd (l : List Int) (p : Nat) (e : Int) : (varS l p e).1 ≤ 4611686018427387903 := by
  unfold varS
  split
  · rcases Hr.vread_cases (l.drop p) with ⟨n, s, hv, _, _, h⟩ | ⟨e, _, hv⟩ <;> rw [hv] <;> simp <;> omega
  · simp
set_option maxHeartbeats 8000000 in
set_option maxRecDepth 100000 in
theorem ref_long {w : World} {A : Option Addr} {c : Nat} {l : List Int} (hC : Kd.C (Kd.int .u8) w A l.length l) (hc : l.length ≤ c) (hl : l.length ≤ 100000) (hB : ∀ x ∈ l, 0 ≤ x ∧ x ≤ 255)
    (x1 x4 x5 x6 x7 x8 x10 x12 : List Int) (p1 p4 p5 p6 p7 p8 p10 p11 p12 n5 n7 n : Nat) (e1 e4 e5 e6 e7 e8 e10 e11 e12 f kd : Int) (h1 : bytesS l 0 0 1 = (x1, p1, e1)) (hf : numF x1 = f) (h0 : 192 ≤ f) (hlt : f ≤ 255) (hkd : (f - 192) / 16 = kd)
    (h4 : bytesS l p1 (needE e1 (decide (f % 16 < 4 ∧ kd < 3)) 3) 4 = (x4, p4, e4))
    (h5 : bytesS l p4 (needE e4 (decide (0 < numF x4)) 3) 1 = (x5, p5, e5)) (hn5 : numF x5 = (n5 : Int)) (hn5b : n5 ≤ 255)
    (h6 : bytesS l p5 (needE e5 (decide ((n5 : Int) ≤ 20)) 4) n5 = (x6, p6, e6))
    (h7 : bytesS l p6 e6 1 = (x7, p7, e7)) (hn7 : numF x7 = (n7 : Int)) (hn7b : n7 ≤ 255)
    (h8 : bytesS l p7 (needE e7 (decide ((n7 : Int) ≤ 20)) 4) n7 = (x8, p8, e8))
    (h10 : (kd = 0 ∧ ∃ (n9 p9 : Nat) (e9 : Int), varS l p8 e8 = (n9, p9, e9) ∧ bytesS l p9 (needE e9 (decide ((n9 : Int) ≤ 64)) 4) n9 = (x10, p10, e10)) ∨ (kd ≠ 0 ∧ x10 = [] ∧ p10 = p8 ∧ e10 = e8))
    (h11 : varS l p10 e10 = (n, p11, e11)) (hp11 : p11 ≤ l.length)
    (h12 : bytesS l p11 (needE (needE e11 (decide (f % 4 + 1 ≤ (n : Int))) 3) (decide ((n : Int) ≤ (l.length : Int) - (p11 : Int))) 2) (f % 4 + 1).toNat = (x12, p12, e12)) :
    Calls Tryd.prog 6 #[.slice A l.length c] w (RefEnd w (kd, numF x4, x6, x8, x10, 0, numF x12, f % 4 + 1) p12 ((p11 : Int) + (n : Int)) e12) := by
  have hnb : n ≤ 4611686018427387903 := by have := varS_bd l p10 e10; rw [h11] at this; exact this
  have HI := iw_inn hC hc hl hB
  have HZ := Aside0.mk (iw_hk w A l.length c)
  have H := number_calls HI 1 (by omega)
  rw [h1, show numF (x1, p1, e1).1 = f from hf] at H
  have a4 : wrap64 (f % 4 + 1) = f % 4 + 1 := by unfold wrap64; omega
  have t1 : f.tmod 4 = f % 4 := Int.tmod_eq_emod_of_nonneg (by omega)
  have u1 : wrap64 (f % 4) = f % 4 := by unfold wrap64; omega
  have d0 : decide (f < 192) = false := decide_eq_false (by omega)
  have t2 : f.tmod 16 = f % 16 := Int.tmod_eq_emod_of_nonneg (by omega)
  have t3 : (f - 192).tdiv 16 = kd := by rw [Int.tdiv_eq_ediv_of_nonneg (by omega)]; exact hkd
  have u2 : wrap64 (f - 192) = f - 192 := by unfold wrap64; omega
  have u3 : wrap64 kd = kd := by unfold wrap64; omega
  have u4 : wrap64 (f % 16) = f % 16 := by unfold wrap64; omega
  have u5 : wrap64 ((l.length : Int) - (p11 : Int)) = (l.length : Int) - (p11 : Int) := by unfold wrap64; omega
  have u6 : wrap64 ((p11 : Int) + (n : Int)) = (p11 : Int) + (n : Int) := by unfold wrap64; omega
  have H0 := Aside0.mk (show 192 ≤ f ∧ f ≤ 255 from ⟨h0, hlt⟩)
  have N5 := Aside0.mk hn5
  have N7 := Aside0.mk hn7
  have HS5a := h5
  obtain ⟨e3, he3⟩ : ∃ e3, needE e1 (decide (f % 16 < 4 ∧ kd < 3)) 3 = e3 := ⟨_, rfl⟩
  obtain ⟨e4a, he4a⟩ : ∃ e, needE e4 (decide (0 < numF x4)) 3 = e := ⟨_, rfl⟩
  obtain ⟨e11a, he11a⟩ : ∃ e, needE e11 (decide (f % 4 + 1 ≤ (n : Int))) 3 = e := ⟨_, rfl⟩
  rw [he11a] at h12
  obtain ⟨e11b, he11b⟩ : ∃ e, needE e11a (decide ((n : Int) ≤ (l.length : Int) - (p11 : Int))) 2 = e := ⟨_, rfl⟩
  rw [he3] at h4
  rw [he4a] at h5
  rw [he11b] at h12
  have HS4 := Aside0.mk h4
  have HS5 := Aside0.mk h5
  have HS6 := Aside0.mk h6
  have HS7 := Aside0.mk h7
  have HS8 := Aside0.mk h8
  have HS10 := Aside0.mk h10
  have HS11 := Aside0.mk h11
  have HS12 := Aside0.mk h12
  have HE3 := Aside0.mk he3
  have HE4 := Aside0.mk he4a
  have HE11 := Aside0.mk he11a
  have HE12 := Aside0.mk he11b
  have HK := Aside0.mk hkd
  clear h4 h5 h6 h7 h8 h10 h11 h12 he3 he4a he11a he11b hn5 hn7 HS5a hkd hp11
  have HI0 := Aside0.mk HI
  clear hC hc hl hB h1 h0 hlt HI hf
  go_enter Tryd.func6, Tryd.ntmps6
  go_upto_region 2 with (fail)
  change Code.wp _ _ _ _ (iw w A l.length c)
  generalize iw w A l.length c = wi at *
  go_upto_region 10 with (go_at_call 14; refine H.mono ?_; rintro e2 w1 ⟨rfl, hr, ho⟩; have HO := Aside0.mk ho; have HR := Aside0.mk hr; clear ho hr)
  clear H
  have hz0 := HZ.out.lt
  have hrl := HI0.out.lt
  have hsz : w.heap.size + 1 < w1.heap.size := Nat.lt_of_lt_of_le hrl HO.out.size
  have hr1 := HR.out.below (w' := w1.alloc (.cells #[.int .i64 0, .int .i64 0, .slice none 0 0, .slice none 0 0, .slice none 0 0, .int .i64 0, .int .i64 0, .int .i64 (f % 4 + 1)] 28)) (below_alloc (Below.refl _ _) _)
  have hb1 := Hk.new w1 [.int .i64 0, .int .i64 0, .slice none 0 0, .slice none 0 0, .slice none 0 0, .int .i64 0, .int .i64 0, .int .i64 (f % 4 + 1)]
  have hz1 := (HZ.out.only HO.out (by omega)).only ((Only.refl (fun _ => False) w1).alloc (.cells #[.int .i64 0, .int .i64 0, .slice none 0 0, .slice none 0 0, .slice none 0 0, .int .i64 0, .int .i64 0, .int .i64 (f % 4 + 1)] 28)) (fun q => q)
  clear HO HR HZ HI0
  generalize w1.alloc (.cells #[.int .i64 0, .int .i64 0, .slice none 0 0, .slice none 0 0, .slice none 0 0, .int .i64 0, .int .i64 0, .int .i64 (f % 4 + 1)] 28) = w2 at *
  generalize w1.heap.size = hb at *
  obtain ⟨rb, hrb⟩ : ∃ rb, w.heap.size + 1 = rb := ⟨_, rfl⟩
  rw [hrb] at hr1 hsz ⊢
  have HL := Aside0.mk (show w.heap.size < rb ∧ rb < hb by omega)
  have R2 := Aside0.mk hr1
  have B2 := Aside0.mk hb1
  have Z2 := Aside0.mk hz1
  clear hr1 hb1 hz1 hsz hrb hz0 hrl w1
  by_cases k1 : f % 16 < 4
  · have c1 : decide (f % 16 < 4) = true := decide_eq_true k1
    have he0 : needE e1 (decide (kd < 3)) 3 = e3 := (congrArg (needE e1 · 3) (decide_eq_decide.2 ⟨fun h => ⟨k1, h⟩, fun h => h.2⟩)).trans HE3.out
    clear k1
    have q0 := B2.out.cell 0 _ rfl
    have g0 := B2.out.frozen 0
    go_upto_region 11 with (fail)
    clear q0 g0
    have R3 := Aside0.mk (R2.out.far (a := ⟨hb, 0, none⟩) (by have := HL.out; show hb ≠ rb; omega) (by have := HL.out; show w.heap.size ≤ hb; omega) (.int .i64 kd))
    have B3 := Aside0.mk (B2.out.set 0 (.int .i64 kd))
    have Z3 := Aside0.mk (Z2.out.far (a := ⟨hb, 0, none⟩) (by have := HL.out; show hb ≠ w.heap.size; omega) (.int .i64 kd))
    clear R2 B2 Z2
    generalize w2.setCell ⟨hb, 0, none⟩ (.int .i64 kd) = w3 at *
    have he3 : needE e1 (decide (kd < 3)) 3 = e3 := he0
    have q0 := B3.out.cell 0 _ rfl
    go_upto_region 12 with (go_at_call 15; refine (he3 ▸ need_calls R3.out (decide (kd < 3)) 3).mono ?_; rintro e9 w4 ⟨rfl, hr, ho⟩; have HO := Aside0.mk ho; have R4 := Aside0.mk hr; have hb9 := B3.out.only ho (by have := HL.out; omega); have B4 := Aside0.mk hb9; have Z4 := Aside0.mk (Z3.out.only ho (by have := HL.out; omega));  clear hb9 ho hr)
    clear R3 B3 Z3 HO
    clear q0 he3
    have HB := number_calls R4.out 4 (by omega)
    rw [HS4.out] at HB
    go_upto_region 13 with (go_at_call 14; refine HB.mono ?_; rintro e9 w5 ⟨rfl, hr, ho⟩;  have HO := Aside0.mk ho; have R5 := Aside0.mk hr; have hb9 := B4.out.only ho (by have := HL.out; omega); have B5 := Aside0.mk hb9; have Z5 := Aside0.mk (Z4.out.only ho (by have := HL.out; omega)); have q1 := hb9.cell 1 _ rfl; have g1 := hb9.frozen 1; clear hb9 ho hr)
    clear HB R4 B4 Z4 HO q1 g1
    have R6 := Aside0.mk (R5.out.far (a := ⟨hb, 1, none⟩) (by have := HL.out; show hb ≠ rb; omega) (by have := HL.out; show w.heap.size ≤ hb; omega) (.int .i64 (numF x4)))
    have B6 := Aside0.mk (B5.out.set 1 (.int .i64 (numF x4)))
    have Z6 := Aside0.mk (Z5.out.far (a := ⟨hb, 1, none⟩) (by have := HL.out; show hb ≠ w.heap.size; omega) (.int .i64 (numF x4)))
    clear R5 B5 Z5
    generalize w5.setCell ⟨hb, 1, none⟩ (.int .i64 (numF x4)) = w6 at *
    have q1 := B6.out.cell 1 _ rfl
    go_upto_region 14 with (go_at_call 15; refine (HE4.out ▸ need_calls R6.out (decide (0 < numF x4)) 3).mono ?_; rintro e9 w7 ⟨rfl, hr, ho⟩; have HO := Aside0.mk ho; have R7 := Aside0.mk hr; have hb9 := B6.out.only ho (by have := HL.out; omega); have B7 := Aside0.mk hb9; have Z7 := Aside0.mk (Z6.out.only ho (by have := HL.out; omega));  clear hb9 ho hr)
    clear R6 B6 Z6 HO
    clear q1
    have HB := number_calls R7.out 1 (by omega)
    rw [HS5.out, show numF (x5, p5, e5).1 = (n5 : Int) from N5.out] at HB
    have HM := Aside0.mk (fun (W : World) (hi : Inn w W rb A c l p5 e5) => most_calls hi n5 (by omega) 20)
    rw [HS6.out] at HM
    go_upto_region 15 with (first | (go_at_call 14; refine HB.mono ?_; rintro e9 w8 ⟨rfl, hr, ho⟩; have HO := Aside0.mk ho; have R8 := Aside0.mk hr; have B8 := Aside0.mk (B7.out.only ho (by have := HL.out; omega)); have Z8 := Aside0.mk (Z7.out.only ho (by have := HL.out; omega)); clear ho hr) | (go_at_call 17; refine (HM.out _ R8.out).mono ?_; rintro e9 w9 ⟨v9, rfl, ⟨A2, c2, e9, hrC, hrL⟩, hr, ho⟩; obtain ⟨n2, hn9⟩ : ∃ n, x6.length = n := ⟨_, rfl⟩; have W2 := Aside0.mk (show Row0 w (.slice A2 n2 c2) x6 from ⟨A2, c2, by rw [hn9], hrC, hrL⟩); obtain rfl : v9 = .slice A2 n2 c2 := e9.trans (by rw [← hn9]); clear hrC hrL hn9 e9; have HO2 := Aside0.mk ho; have R9 := Aside0.mk hr; have hb9 := B8.out.only ho (by have := HL.out; omega); have B9 := Aside0.mk hb9; have Z9 := Aside0.mk (Z8.out.only ho (by have := HL.out; omega)); have q2 := hb9.cell 2 _ rfl; have g2 := hb9.frozen 2; clear hb9 ho hr))
    clear HB HM HO HO2 R7 B7 Z7 R8 B8 Z8 q2 g2
    have R10 := Aside0.mk (R9.out.far (a := ⟨hb, 2, none⟩) (by have := HL.out; show hb ≠ rb; omega) (by have := HL.out; show w.heap.size ≤ hb; omega) (.slice A2 n2 c2))
    have B10 := Aside0.mk (B9.out.set 2 (.slice A2 n2 c2))
    have Z10 := Aside0.mk (Z9.out.far (a := ⟨hb, 2, none⟩) (by have := HL.out; show hb ≠ w.heap.size; omega) (.slice A2 n2 c2))
    clear R9 B9 Z9
    generalize w9.setCell ⟨hb, 2, none⟩ (.slice A2 n2 c2) = w10 at *
    have HB := number_calls R10.out 1 (by omega)
    rw [HS7.out, show numF (x7, p7, e7).1 = (n7 : Int) from N7.out] at HB
    have HM := Aside0.mk (fun (W : World) (hi : Inn w W rb A c l p7 e7) => most_calls hi n7 (by omega) 20)
    rw [HS8.out] at HM
    go_upto_region 16 with (first | (go_at_call 14; refine HB.mono ?_; rintro e9 w11 ⟨rfl, hr, ho⟩; have HO := Aside0.mk ho; have R11 := Aside0.mk hr; have B11 := Aside0.mk (B10.out.only ho (by have := HL.out; omega)); have Z11 := Aside0.mk (Z10.out.only ho (by have := HL.out; omega)); clear ho hr) | (go_at_call 17; refine (HM.out _ R11.out).mono ?_; rintro e9 w12 ⟨v9, rfl, ⟨A3, c3, e9, hrC, hrL⟩, hr, ho⟩; obtain ⟨n3, hn9⟩ : ∃ n, x8.length = n := ⟨_, rfl⟩; have W3 := Aside0.mk (show Row0 w (.slice A3 n3 c3) x8 from ⟨A3, c3, by rw [hn9], hrC, hrL⟩); obtain rfl : v9 = .slice A3 n3 c3 := e9.trans (by rw [← hn9]); clear hrC hrL hn9 e9; have HO2 := Aside0.mk ho; have R12 := Aside0.mk hr; have hb9 := B11.out.only ho (by have := HL.out; omega); have B12 := Aside0.mk hb9; have Z12 := Aside0.mk (Z11.out.only ho (by have := HL.out; omega)); have q3 := hb9.cell 3 _ rfl; have g3 := hb9.frozen 3; clear hb9 ho hr))
    clear HB HM HO HO2 R10 B10 Z10 R11 B11 Z11 q3 g3
    have R13 := Aside0.mk (R12.out.far (a := ⟨hb, 3, none⟩) (by have := HL.out; show hb ≠ rb; omega) (by have := HL.out; show w.heap.size ≤ hb; omega) (.slice A3 n3 c3))
    have B13 := Aside0.mk (B12.out.set 3 (.slice A3 n3 c3))
    have Z13 := Aside0.mk (Z12.out.far (a := ⟨hb, 3, none⟩) (by have := HL.out; show hb ≠ w.heap.size; omega) (.slice A3 n3 c3))
    clear R12 B12 Z12
    generalize w12.setCell ⟨hb, 3, none⟩ (.slice A3 n3 c3) = w13 at *
    have q0 := B13.out.cell 0 _ rfl
    rcases HS10.out with ⟨k0, n9, p9, e9, h9, h10⟩ | ⟨k0, k1, k2, k3⟩
    · have d1 : (kd == 0) = true := by simp [k0]
      have d2 : decide (kd = 0) = true := decide_eq_true k0
      have hn9 : n9 ≤ 4611686018427387903 := by have := varS_bd l p8 e8; rw [h9] at this; exact this
      have HS9 := Aside0.mk h9
      have HS10b := Aside0.mk h10
      clear k0 h9 h10 HS10
      go_upto_region 17 with (fail)
      clear d1 d2 q0
      have HB := varint_calls R13.out
      rw [HS9.out] at HB
      have HM := Aside0.mk (fun (W : World) (hi : Inn w W rb A c l p9 e9) => most_calls hi n9 (by omega) 64)
      rw [HS10b.out] at HM
      go_upto_region 18 with (first | (go_at_call 18; refine HB.mono ?_; rintro e9 w14 ⟨rfl, hr, ho⟩; have HO := Aside0.mk ho; have R14 := Aside0.mk hr; have B14 := Aside0.mk (B13.out.only ho (by have := HL.out; omega)); have Z14 := Aside0.mk (Z13.out.only ho (by have := HL.out; omega)); clear ho hr) | (go_at_call 17; refine (HM.out _ R14.out).mono ?_; rintro e9 w15 ⟨v9, rfl, ⟨A4, c4, e9, hrC, hrL⟩, hr, ho⟩; obtain ⟨n4, hn9⟩ : ∃ n, x10.length = n := ⟨_, rfl⟩; have W4 := Aside0.mk (show Row0 w (.slice A4 n4 c4) x10 from ⟨A4, c4, by rw [hn9], hrC, hrL⟩); obtain rfl : v9 = .slice A4 n4 c4 := e9.trans (by rw [← hn9]); clear hrC hrL hn9 e9; have HO2 := Aside0.mk ho; have R15 := Aside0.mk hr; have hb9 := B14.out.only ho (by have := HL.out; omega); have B15 := Aside0.mk hb9; have Z15 := Aside0.mk (Z14.out.only ho (by have := HL.out; omega)); have q4 := hb9.cell 4 _ rfl; have g4 := hb9.frozen 4; clear hb9 ho hr))
      clear HB HM HO HO2 R13 B13 Z13 R14 B14 Z14 q4 g4
      have R16 := Aside0.mk (R15.out.far (a := ⟨hb, 4, none⟩) (by have := HL.out; show hb ≠ rb; omega) (by have := HL.out; show w.heap.size ≤ hb; omega) (.slice A4 n4 c4))
      have B16 := Aside0.mk (B15.out.set 4 (.slice A4 n4 c4))
      have Z16 := Aside0.mk (Z15.out.far (a := ⟨hb, 4, none⟩) (by have := HL.out; show hb ≠ w.heap.size; omega) (.slice A4 n4 c4))
      clear R15 B15 Z15
      generalize w15.setCell ⟨hb, 4, none⟩ (.slice A4 n4 c4) = w16 at *
      have HB := varint_calls R16.out
      rw [HS11.out] at HB
      go_upto_region 19 with (go_at_call 18; refine (HB).mono ?_; rintro e9 w17 ⟨rfl, hr, ho⟩; have HO := Aside0.mk ho; have R17 := Aside0.mk hr; have hb9 := B16.out.only ho (by have := HL.out; omega); have B17 := Aside0.mk hb9; have Z17 := Aside0.mk (Z16.out.only ho (by have := HL.out; omega)); have q7 := hb9.cell 7 _ rfl; have g7 := hb9.frozen 7; clear hb9 ho hr)
      clear R16 B16 Z16 HO
      clear HB g7
      go_upto_region 20 with (go_at_call 15; refine (HE11.out ▸ need_calls R17.out (decide (f % 4 + 1 ≤ (n : Int))) 3).mono ?_; rintro e9 w18 ⟨rfl, hr, ho⟩; have HO := Aside0.mk ho; have R18 := Aside0.mk hr; have hb9 := B17.out.only ho (by have := HL.out; omega); have B18 := Aside0.mk hb9; have Z18 := Aside0.mk (Z17.out.only ho (by have := HL.out; omega));  clear hb9 ho hr)
      clear R17 B17 Z17 HO
      clear q7
      have c1 := R18.out.c1
      go_upto_region 21 with (go_at_call 15; refine (HE12.out ▸ need_calls R18.out (decide ((n : Int) ≤ (l.length : Int) - (p11 : Int))) 2).mono ?_; rintro e9 w19 ⟨rfl, hr, ho⟩; have HO := Aside0.mk ho; have R19 := Aside0.mk hr; have hb9 := B18.out.only ho (by have := HL.out; omega); have B19 := Aside0.mk hb9; have Z19 := Aside0.mk (Z18.out.only ho (by have := HL.out; omega)); have q7 := hb9.cell 7 _ rfl; have g7 := hb9.frozen 7; clear hb9 ho hr)
      clear R18 B18 Z18 HO
      clear c1 g7
      have c1 := R19.out.c1
      go_upto_region 22 with (fail)
      clear c1
      have HN0 := H0.out
      have HB := number_calls R19.out (f % 4 + 1).toNat (by omega)
      rw [HS12.out, Int.toNat_of_nonneg (by omega)] at HB
      clear HN0
      go_upto_region 23 with (go_at_call 14; refine HB.mono ?_; rintro e9 w20 ⟨rfl, hr, ho⟩;  have HO := Aside0.mk ho; have R20 := Aside0.mk hr; have hb9 := B19.out.only ho (by have := HL.out; omega); have B20 := Aside0.mk hb9; have Z20 := Aside0.mk (Z19.out.only ho (by have := HL.out; omega)); have q6 := hb9.cell 6 _ rfl; have g6 := hb9.frozen 6; clear hb9 ho hr)
      clear HB R19 B19 Z19 HO q6 g6
      clear q7
      have R21 := Aside0.mk (R20.out.far (a := ⟨hb, 6, none⟩) (by have := HL.out; show hb ≠ rb; omega) (by have := HL.out; show w.heap.size ≤ hb; omega) (.int .i64 (numF x12)))
      have B21 := Aside0.mk (B20.out.set 6 (.int .i64 (numF x12)))
      have Z21 := Aside0.mk (Z20.out.far (a := ⟨hb, 6, none⟩) (by have := HL.out; show hb ≠ w.heap.size; omega) (.int .i64 (numF x12)))
      clear R20 B20 Z20
      generalize w20.setCell ⟨hb, 6, none⟩ (.int .i64 (numF x12)) = w21 at *
      by_cases he : e12 = 0
      · subst he
        have rr2 := R21.out.c2
        have b0 := B21.out.cell 0 _ rfl
        have b1 := B21.out.cell 1 _ rfl
        have b2 := B21.out.cell 2 _ rfl
        have b3 := B21.out.cell 3 _ rfl
        have b4 := B21.out.cell 4 _ rfl
        have b5 := B21.out.cell 5 _ rfl
        have b6 := B21.out.cell 6 _ rfl
        have b7 := B21.out.cell 7 _ rfl
        have z0 := Z21.out.cell 0 _ rfl
        have z1 := Z21.out.cell 1 _ rfl
        have z2 := Z21.out.cell 2 _ rfl
        have z3 := Z21.out.cell 3 _ rfl
        have z4 := Z21.out.cell 4 _ rfl
        have z5 := Z21.out.cell 5 _ rfl
        have z6 := Z21.out.cell 6 _ rfl
        have z7 := Z21.out.cell 7 _ rfl
        have y0 := Z21.out.frozen 0
        have y1 := Z21.out.frozen 1
        have y2 := Z21.out.frozen 2
        have y3 := Z21.out.frozen 3
        have y4 := Z21.out.frozen 4
        have y5 := Z21.out.frozen 5
        have y6 := Z21.out.frozen 6
        have y7 := Z21.out.frozen 7
        have r1 := R21.out.c1
        have r2 := R21.out.c2
        have zn1 : ¬ (rb = w.heap.size) := by have := HL.out; omega
        have zn2 : ¬ (w.heap.size = rb) := by have := HL.out; omega
        have zn3 : ¬ (hb = w.heap.size) := by have := HL.out; omega
        have zn4 : ¬ (w.heap.size = hb) := by have := HL.out; omega
        go_wp2
        go_region
        change Exit.then _ _ Exit.normal _ (Hr.put8 w21 w.heap.size (.int .i64 kd) (.int .i64 (numF x4)) (.slice A2 n2 c2) (.slice A3 n3 c3) (.slice A4 n4 c4) (.int .i64 0) (.int .i64 (numF x12)) (.int .i64 (f % 4 + 1))).drew
        have o8 := Hr.put8_only w21 w.heap.size (.int .i64 kd) (.int .i64 (numF x4)) (.slice A2 n2 c2) (.slice A3 n3 c3) (.slice A4 n4 c4) (.int .i64 0) (.int .i64 (numF x12)) (.int .i64 (f % 4 + 1))
        have R9 := (R21.out.only o8 (by have := HL.out; omega) (Nat.le_refl _)).bl
        have B8 := (put8_hk Z21.out (.int .i64 kd) (.int .i64 (numF x4)) (.slice A2 n2 c2) (.slice A3 n3 c3) (.slice A4 n4 c4) (.int .i64 0) (.int .i64 (numF x12)) (.int .i64 (f % 4 + 1))).only ((Only.refl (fun _ => False) _).drew) (fun q => q)
        have R8 := below_drew1 R9
        clear b0 b1 b2 b3 b4 b5 b6 b7 z0 z1 z2 z3 z4 z5 z6 z7 y0 y1 y2 y3 y4 y5 y6 y7 r1 r2 zn1 zn2 zn3 zn4 o8 R9
        generalize (Hr.put8 w21 w.heap.size (.int .i64 kd) (.int .i64 (numF x4)) (.slice A2 n2 c2) (.slice A3 n3 c3) (.slice A4 n4 c4) (.int .i64 0) (.int .i64 (numF x12)) (.int .i64 (f % 4 + 1))).drew = w99 at *
        have xx0 := B8.cell 0 _ rfl
        have xx1 := B8.cell 1 _ rfl
        have xx2 := B8.cell 2 _ rfl
        have xx3 := B8.cell 3 _ rfl
        have xx4 := B8.cell 4 _ rfl
        have xx5 := B8.cell 5 _ rfl
        have xx6 := B8.cell 6 _ rfl
        have xx7 := B8.cell 7 _ rfl
        clear B8
        have R88 := Aside0.mk R8
        clear R8
        go_wp2
        refine bodyPost_ret (v := .tuple #[.agg #[.int .i64 kd, .int .i64 (numF x4), .slice A2 n2 c2, .slice A3 n3 c3, .slice A4 n4 c4, .int .i64 0, .int .i64 (numF x12), .int .i64 (f % 4 + 1)], .int .i64 p12, .int .i64 ((p11 : Int) + (n : Int)), .int .i64 0]) ?_ rfl ?_
        · simp [results, Tryd.results6, go_sem, xx0, xx1, xx2, xx3, xx4, xx5, xx6, xx7]
        · exact .inl ⟨rfl, _, _, _, rfl, W2.out, W3.out, W4.out, R88.out⟩
      · have HE := Aside0.mk he
        have d1 : (e12 == 0) = false := by simpa using he
        have d2 : decide (e12 = 0) = false := decide_eq_false he
        clear he
        have rr2 := R21.out.c2
        have b0 := B21.out.cell 0 _ rfl
        have b1 := B21.out.cell 1 _ rfl
        have b2 := B21.out.cell 2 _ rfl
        have b3 := B21.out.cell 3 _ rfl
        have b4 := B21.out.cell 4 _ rfl
        have b5 := B21.out.cell 5 _ rfl
        have b6 := B21.out.cell 6 _ rfl
        have b7 := B21.out.cell 7 _ rfl
        have z0 := Z21.out.cell 0 _ rfl
        have z1 := Z21.out.cell 1 _ rfl
        have z2 := Z21.out.cell 2 _ rfl
        have z3 := Z21.out.cell 3 _ rfl
        have z4 := Z21.out.cell 4 _ rfl
        have z5 := Z21.out.cell 5 _ rfl
        have z6 := Z21.out.cell 6 _ rfl
        have z7 := Z21.out.cell 7 _ rfl
        have y0 := Z21.out.frozen 0
        have y1 := Z21.out.frozen 1
        have y2 := Z21.out.frozen 2
        have y3 := Z21.out.frozen 3
        have y4 := Z21.out.frozen 4
        have y5 := Z21.out.frozen 5
        have y6 := Z21.out.frozen 6
        have y7 := Z21.out.frozen 7
        have r1 := R21.out.c1
        have r2 := R21.out.c2
        have zn1 : ¬ (rb = w.heap.size) := by have := HL.out; omega
        have zn2 : ¬ (w.heap.size = rb) := by have := HL.out; omega
        have zn3 : ¬ (hb = w.heap.size) := by have := HL.out; omega
        have zn4 : ¬ (w.heap.size = hb) := by have := HL.out; omega
        go_wp2
        go_region
        change Exit.then _ _ Exit.normal _ (Hr.put8 w21 w.heap.size (.int .i64 0) (.int .i64 0) (.slice none 0 0) (.slice none 0 0) (.slice none 0 0) (.int .i64 0) (.int .i64 0) (.int .i64 0)).drew
        have o8 := Hr.put8_only w21 w.heap.size (.int .i64 0) (.int .i64 0) (.slice none 0 0) (.slice none 0 0) (.slice none 0 0) (.int .i64 0) (.int .i64 0) (.int .i64 0)
        have R9 := (R21.out.only o8 (by have := HL.out; omega) (Nat.le_refl _)).bl
        have B8 := (put8_hk Z21.out (.int .i64 0) (.int .i64 0) (.slice none 0 0) (.slice none 0 0) (.slice none 0 0) (.int .i64 0) (.int .i64 0) (.int .i64 0)).only ((Only.refl (fun _ => False) _).drew) (fun q => q)
        have R8 := below_drew1 R9
        clear b0 b1 b2 b3 b4 b5 b6 b7 z0 z1 z2 z3 z4 z5 z6 z7 y0 y1 y2 y3 y4 y5 y6 y7 r1 r2 zn1 zn2 zn3 zn4 o8 R9
        generalize (Hr.put8 w21 w.heap.size (.int .i64 0) (.int .i64 0) (.slice none 0 0) (.slice none 0 0) (.slice none 0 0) (.int .i64 0) (.int .i64 0) (.int .i64 0)).drew = w99 at *
        have xx0 := B8.cell 0 _ rfl
        have xx1 := B8.cell 1 _ rfl
        have xx2 := B8.cell 2 _ rfl
        have xx3 := B8.cell 3 _ rfl
        have xx4 := B8.cell 4 _ rfl
        have xx5 := B8.cell 5 _ rfl
        have xx6 := B8.cell 6 _ rfl
        have xx7 := B8.cell 7 _ rfl
        clear B8
        have R88 := Aside0.mk R8
        clear R8
        go_wp2
        refine bodyPost_ret (v := .tuple #[.agg #[.int .i64 0, .int .i64 0, .slice none 0 0, .slice none 0 0, .slice none 0 0, .int .i64 0, .int .i64 0, .int .i64 0], .int .i64 0, .int .i64 0, .int .i64 e12]) ?_ rfl ?_
        · simp [results, Tryd.results6, go_sem, xx0, xx1, xx2, xx3, xx4, xx5, xx6, xx7]
        · exact .inr ⟨HE.out, _, _, _, rfl, row0_nil _, row0_nil _, row0_nil _, R88.out⟩
    · have d1 : (kd == 0) = false := by simp [k0]
      have d2 : decide (kd = 0) = false := decide_eq_false k0
      clear k0 HS10
      subst k1 k2 k3
      go_upto_region 18 with (fail)
      clear d1 d2 q0
      have HB := varint_calls R13.out
      rw [HS11.out] at HB
      go_upto_region 19 with (go_at_call 18; refine (HB).mono ?_; rintro e9 w14 ⟨rfl, hr, ho⟩; have HO := Aside0.mk ho; have R14 := Aside0.mk hr; have hb9 := B13.out.only ho (by have := HL.out; omega); have B14 := Aside0.mk hb9; have Z14 := Aside0.mk (Z13.out.only ho (by have := HL.out; omega)); have q7 := hb9.cell 7 _ rfl; have g7 := hb9.frozen 7; clear hb9 ho hr)
      clear R13 B13 Z13 HO
      clear HB g7
      go_upto_region 20 with (go_at_call 15; refine (HE11.out ▸ need_calls R14.out (decide (f % 4 + 1 ≤ (n : Int))) 3).mono ?_; rintro e9 w15 ⟨rfl, hr, ho⟩; have HO := Aside0.mk ho; have R15 := Aside0.mk hr; have hb9 := B14.out.only ho (by have := HL.out; omega); have B15 := Aside0.mk hb9; have Z15 := Aside0.mk (Z14.out.only ho (by have := HL.out; omega));  clear hb9 ho hr)
      clear R14 B14 Z14 HO
      clear q7
      have c1 := R15.out.c1
      go_upto_region 21 with (go_at_call 15; refine (HE12.out ▸ need_calls R15.out (decide ((n : Int) ≤ (l.length : Int) - (p11 : Int))) 2).mono ?_; rintro e9 w16 ⟨rfl, hr, ho⟩; have HO := Aside0.mk ho; have R16 := Aside0.mk hr; have hb9 := B15.out.only ho (by have := HL.out; omega); have B16 := Aside0.mk hb9; have Z16 := Aside0.mk (Z15.out.only ho (by have := HL.out; omega)); have q7 := hb9.cell 7 _ rfl; have g7 := hb9.frozen 7; clear hb9 ho hr)
      clear R15 B15 Z15 HO
      clear c1 g7
      have c1 := R16.out.c1
      go_upto_region 22 with (fail)
      clear c1
      have HN0 := H0.out
      have HB := number_calls R16.out (f % 4 + 1).toNat (by omega)
      rw [HS12.out, Int.toNat_of_nonneg (by omega)] at HB
      clear HN0
      go_upto_region 23 with (go_at_call 14; refine HB.mono ?_; rintro e9 w17 ⟨rfl, hr, ho⟩;  have HO := Aside0.mk ho; have R17 := Aside0.mk hr; have hb9 := B16.out.only ho (by have := HL.out; omega); have B17 := Aside0.mk hb9; have Z17 := Aside0.mk (Z16.out.only ho (by have := HL.out; omega)); have q6 := hb9.cell 6 _ rfl; have g6 := hb9.frozen 6; clear hb9 ho hr)
      clear HB R16 B16 Z16 HO q6 g6
      clear q7
      have R18 := Aside0.mk (R17.out.far (a := ⟨hb, 6, none⟩) (by have := HL.out; show hb ≠ rb; omega) (by have := HL.out; show w.heap.size ≤ hb; omega) (.int .i64 (numF x12)))
      have B18 := Aside0.mk (B17.out.set 6 (.int .i64 (numF x12)))
      have Z18 := Aside0.mk (Z17.out.far (a := ⟨hb, 6, none⟩) (by have := HL.out; show hb ≠ w.heap.size; omega) (.int .i64 (numF x12)))
      clear R17 B17 Z17
      generalize w17.setCell ⟨hb, 6, none⟩ (.int .i64 (numF x12)) = w18 at *
      by_cases he : e12 = 0
      · subst he
        have rr2 := R18.out.c2
        have b0 := B18.out.cell 0 _ rfl
        have b1 := B18.out.cell 1 _ rfl
        have b2 := B18.out.cell 2 _ rfl
        have b3 := B18.out.cell 3 _ rfl
        have b4 := B18.out.cell 4 _ rfl
        have b5 := B18.out.cell 5 _ rfl
        have b6 := B18.out.cell 6 _ rfl
        have b7 := B18.out.cell 7 _ rfl
        have z0 := Z18.out.cell 0 _ rfl
        have z1 := Z18.out.cell 1 _ rfl
        have z2 := Z18.out.cell 2 _ rfl
        have z3 := Z18.out.cell 3 _ rfl
        have z4 := Z18.out.cell 4 _ rfl
        have z5 := Z18.out.cell 5 _ rfl
        have z6 := Z18.out.cell 6 _ rfl
        have z7 := Z18.out.cell 7 _ rfl
        have y0 := Z18.out.frozen 0
        have y1 := Z18.out.frozen 1
        have y2 := Z18.out.frozen 2
        have y3 := Z18.out.frozen 3
        have y4 := Z18.out.frozen 4
        have y5 := Z18.out.frozen 5
        have y6 := Z18.out.frozen 6
        have y7 := Z18.out.frozen 7
        have r1 := R18.out.c1
        have r2 := R18.out.c2
        have zn1 : ¬ (rb = w.heap.size) := by have := HL.out; omega
        have zn2 : ¬ (w.heap.size = rb) := by have := HL.out; omega
        have zn3 : ¬ (hb = w.heap.size) := by have := HL.out; omega
        have zn4 : ¬ (w.heap.size = hb) := by have := HL.out; omega
        go_wp2
        go_region
        change Exit.then _ _ Exit.normal _ (Hr.put8 w18 w.heap.size (.int .i64 kd) (.int .i64 (numF x4)) (.slice A2 n2 c2) (.slice A3 n3 c3) (.slice none 0 0) (.int .i64 0) (.int .i64 (numF x12)) (.int .i64 (f % 4 + 1))).drew
        have o8 := Hr.put8_only w18 w.heap.size (.int .i64 kd) (.int .i64 (numF x4)) (.slice A2 n2 c2) (.slice A3 n3 c3) (.slice none 0 0) (.int .i64 0) (.int .i64 (numF x12)) (.int .i64 (f % 4 + 1))
        have R9 := (R18.out.only o8 (by have := HL.out; omega) (Nat.le_refl _)).bl
        have B8 := (put8_hk Z18.out (.int .i64 kd) (.int .i64 (numF x4)) (.slice A2 n2 c2) (.slice A3 n3 c3) (.slice none 0 0) (.int .i64 0) (.int .i64 (numF x12)) (.int .i64 (f % 4 + 1))).only ((Only.refl (fun _ => False) _).drew) (fun q => q)
        have R8 := below_drew1 R9
        clear b0 b1 b2 b3 b4 b5 b6 b7 z0 z1 z2 z3 z4 z5 z6 z7 y0 y1 y2 y3 y4 y5 y6 y7 r1 r2 zn1 zn2 zn3 zn4 o8 R9
        generalize (Hr.put8 w18 w.heap.size (.int .i64 kd) (.int .i64 (numF x4)) (.slice A2 n2 c2) (.slice A3 n3 c3) (.slice none 0 0) (.int .i64 0) (.int .i64 (numF x12)) (.int .i64 (f % 4 + 1))).drew = w99 at *
        have xx0 := B8.cell 0 _ rfl
        have xx1 := B8.cell 1 _ rfl
        have xx2 := B8.cell 2 _ rfl
        have xx3 := B8.cell 3 _ rfl
        have xx4 := B8.cell 4 _ rfl
        have xx5 := B8.cell 5 _ rfl
        have xx6 := B8.cell 6 _ rfl
        have xx7 := B8.cell 7 _ rfl
        clear B8
        have R88 := Aside0.mk R8
        clear R8
        go_wp2
        refine bodyPost_ret (v := .tuple #[.agg #[.int .i64 kd, .int .i64 (numF x4), .slice A2 n2 c2, .slice A3 n3 c3, .slice none 0 0, .int .i64 0, .int .i64 (numF x12), .int .i64 (f % 4 + 1)], .int .i64 p12, .int .i64 ((p11 : Int) + (n : Int)), .int .i64 0]) ?_ rfl ?_
        · simp [results, Tryd.results6, go_sem, xx0, xx1, xx2, xx3, xx4, xx5, xx6, xx7]
        · exact .inl ⟨rfl, _, _, _, rfl, W2.out, W3.out, row0_nil _, R88.out⟩
      · have HE := Aside0.mk he
        have d1 : (e12 == 0) = false := by simpa using he
        have d2 : decide (e12 = 0) = false := decide_eq_false he
        clear he
        have rr2 := R18.out.c2
        have b0 := B18.out.cell 0 _ rfl
        have b1 := B18.out.cell 1 _ rfl
        have b2 := B18.out.cell 2 _ rfl
        have b3 := B18.out.cell 3 _ rfl
        have b4 := B18.out.cell 4 _ rfl
        have b5 := B18.out.cell 5 _ rfl
        have b6 := B18.out.cell 6 _ rfl
        have b7 := B18.out.cell 7 _ rfl
        have z0 := Z18.out.cell 0 _ rfl
        have z1 := Z18.out.cell 1 _ rfl
        have z2 := Z18.out.cell 2 _ rfl
        have z3 := Z18.out.cell 3 _ rfl
        have z4 := Z18.out.cell 4 _ rfl
        have z5 := Z18.out.cell 5 _ rfl
        have z6 := Z18.out.cell 6 _ rfl
        have z7 := Z18.out.cell 7 _ rfl
        have y0 := Z18.out.frozen 0
        have y1 := Z18.out.frozen 1
        have y2 := Z18.out.frozen 2
        have y3 := Z18.out.frozen 3
        have y4 := Z18.out.frozen 4
        have y5 := Z18.out.frozen 5
        have y6 := Z18.out.frozen 6
        have y7 := Z18.out.frozen 7
        have r1 := R18.out.c1
        have r2 := R18.out.c2
        have zn1 : ¬ (rb = w.heap.size) := by have := HL.out; omega
        have zn2 : ¬ (w.heap.size = rb) := by have := HL.out; omega
        have zn3 : ¬ (hb = w.heap.size) := by have := HL.out; omega
        have zn4 : ¬ (w.heap.size = hb) := by have := HL.out; omega
        go_wp2
        go_region
        change Exit.then _ _ Exit.normal _ (Hr.put8 w18 w.heap.size (.int .i64 0) (.int .i64 0) (.slice none 0 0) (.slice none 0 0) (.slice none 0 0) (.int .i64 0) (.int .i64 0) (.int .i64 0)).drew
        have o8 := Hr.put8_only w18 w.heap.size (.int .i64 0) (.int .i64 0) (.slice none 0 0) (.slice none 0 0) (.slice none 0 0) (.int .i64 0) (.int .i64 0) (.int .i64 0)
        have R9 := (R18.out.only o8 (by have := HL.out; omega) (Nat.le_refl _)).bl
        have B8 := (put8_hk Z18.out (.int .i64 0) (.int .i64 0) (.slice none 0 0) (.slice none 0 0) (.slice none 0 0) (.int .i64 0) (.int .i64 0) (.int .i64 0)).only ((Only.refl (fun _ => False) _).drew) (fun q => q)
        have R8 := below_drew1 R9
        clear b0 b1 b2 b3 b4 b5 b6 b7 z0 z1 z2 z3 z4 z5 z6 z7 y0 y1 y2 y3 y4 y5 y6 y7 r1 r2 zn1 zn2 zn3 zn4 o8 R9
        generalize (Hr.put8 w18 w.heap.size (.int .i64 0) (.int .i64 0) (.slice none 0 0) (.slice none 0 0) (.slice none 0 0) (.int .i64 0) (.int .i64 0) (.int .i64 0)).drew = w99 at *
        have xx0 := B8.cell 0 _ rfl
        have xx1 := B8.cell 1 _ rfl
        have xx2 := B8.cell 2 _ rfl
        have xx3 := B8.cell 3 _ rfl
        have xx4 := B8.cell 4 _ rfl
        have xx5 := B8.cell 5 _ rfl
        have xx6 := B8.cell 6 _ rfl
        have xx7 := B8.cell 7 _ rfl
        clear B8
        have R88 := Aside0.mk R8
        clear R8
        go_wp2
        refine bodyPost_ret (v := .tuple #[.agg #[.int .i64 0, .int .i64 0, .slice none 0 0, .slice none 0 0, .slice none 0 0, .int .i64 0, .int .i64 0, .int .i64 0], .int .i64 0, .int .i64 0, .int .i64 e12]) ?_ rfl ?_
        · simp [results, Tryd.results6, go_sem, xx0, xx1, xx2, xx3, xx4, xx5, xx6, xx7]
        · exact .inr ⟨HE.out, _, _, _, rfl, row0_nil _, row0_nil _, row0_nil _, R88.out⟩
  · have c1 : decide (f % 16 < 4) = false := decide_eq_false k1
    have he0 : needE e1 false 3 = e3 := (congrArg (needE e1 · 3) (decide_eq_false (fun h => k1 h.1))).symm.trans HE3.out
    clear k1
    have q0 := B2.out.cell 0 _ rfl
    have g0 := B2.out.frozen 0
    go_upto_region 11 with (fail)
    clear q0 g0
    have R3 := Aside0.mk (R2.out.far (a := ⟨hb, 0, none⟩) (by have := HL.out; show hb ≠ rb; omega) (by have := HL.out; show w.heap.size ≤ hb; omega) (.int .i64 kd))
    have B3 := Aside0.mk (B2.out.set 0 (.int .i64 kd))
    have Z3 := Aside0.mk (Z2.out.far (a := ⟨hb, 0, none⟩) (by have := HL.out; show hb ≠ w.heap.size; omega) (.int .i64 kd))
    clear R2 B2 Z2
    generalize w2.setCell ⟨hb, 0, none⟩ (.int .i64 kd) = w3 at *
    have he3 : needE e1 false 3 = e3 := he0
    have q0 := B3.out.cell 0 _ rfl
    go_upto_region 12 with (go_at_call 15; refine (he3 ▸ need_calls R3.out false 3).mono ?_; rintro e9 w4 ⟨rfl, hr, ho⟩; have HO := Aside0.mk ho; have R4 := Aside0.mk hr; have hb9 := B3.out.only ho (by have := HL.out; omega); have B4 := Aside0.mk hb9; have Z4 := Aside0.mk (Z3.out.only ho (by have := HL.out; omega));  clear hb9 ho hr)
    clear R3 B3 Z3 HO
    clear q0 he3
    have HB := number_calls R4.out 4 (by omega)
    rw [HS4.out] at HB
    go_upto_region 13 with (go_at_call 14; refine HB.mono ?_; rintro e9 w5 ⟨rfl, hr, ho⟩;  have HO := Aside0.mk ho; have R5 := Aside0.mk hr; have hb9 := B4.out.only ho (by have := HL.out; omega); have B5 := Aside0.mk hb9; have Z5 := Aside0.mk (Z4.out.only ho (by have := HL.out; omega)); have q1 := hb9.cell 1 _ rfl; have g1 := hb9.frozen 1; clear hb9 ho hr)
    clear HB R4 B4 Z4 HO q1 g1
    have R6 := Aside0.mk (R5.out.far (a := ⟨hb, 1, none⟩) (by have := HL.out; show hb ≠ rb; omega) (by have := HL.out; show w.heap.size ≤ hb; omega) (.int .i64 (numF x4)))
    have B6 := Aside0.mk (B5.out.set 1 (.int .i64 (numF x4)))
    have Z6 := Aside0.mk (Z5.out.far (a := ⟨hb, 1, none⟩) (by have := HL.out; show hb ≠ w.heap.size; omega) (.int .i64 (numF x4)))
    clear R5 B5 Z5
    generalize w5.setCell ⟨hb, 1, none⟩ (.int .i64 (numF x4)) = w6 at *
    have q1 := B6.out.cell 1 _ rfl
    go_upto_region 14 with (go_at_call 15; refine (HE4.out ▸ need_calls R6.out (decide (0 < numF x4)) 3).mono ?_; rintro e9 w7 ⟨rfl, hr, ho⟩; have HO := Aside0.mk ho; have R7 := Aside0.mk hr; have hb9 := B6.out.only ho (by have := HL.out; omega); have B7 := Aside0.mk hb9; have Z7 := Aside0.mk (Z6.out.only ho (by have := HL.out; omega));  clear hb9 ho hr)
    clear R6 B6 Z6 HO
    clear q1
    have HB := number_calls R7.out 1 (by omega)
    rw [HS5.out, show numF (x5, p5, e5).1 = (n5 : Int) from N5.out] at HB
    have HM := Aside0.mk (fun (W : World) (hi : Inn w W rb A c l p5 e5) => most_calls hi n5 (by omega) 20)
    rw [HS6.out] at HM
    go_upto_region 15 with (first | (go_at_call 14; refine HB.mono ?_; rintro e9 w8 ⟨rfl, hr, ho⟩; have HO := Aside0.mk ho; have R8 := Aside0.mk hr; have B8 := Aside0.mk (B7.out.only ho (by have := HL.out; omega)); have Z8 := Aside0.mk (Z7.out.only ho (by have := HL.out; omega)); clear ho hr) | (go_at_call 17; refine (HM.out _ R8.out).mono ?_; rintro e9 w9 ⟨v9, rfl, ⟨A2, c2, e9, hrC, hrL⟩, hr, ho⟩; obtain ⟨n2, hn9⟩ : ∃ n, x6.length = n := ⟨_, rfl⟩; have W2 := Aside0.mk (show Row0 w (.slice A2 n2 c2) x6 from ⟨A2, c2, by rw [hn9], hrC, hrL⟩); obtain rfl : v9 = .slice A2 n2 c2 := e9.trans (by rw [← hn9]); clear hrC hrL hn9 e9; have HO2 := Aside0.mk ho; have R9 := Aside0.mk hr; have hb9 := B8.out.only ho (by have := HL.out; omega); have B9 := Aside0.mk hb9; have Z9 := Aside0.mk (Z8.out.only ho (by have := HL.out; omega)); have q2 := hb9.cell 2 _ rfl; have g2 := hb9.frozen 2; clear hb9 ho hr))
    clear HB HM HO HO2 R7 B7 Z7 R8 B8 Z8 q2 g2
    have R10 := Aside0.mk (R9.out.far (a := ⟨hb, 2, none⟩) (by have := HL.out; show hb ≠ rb; omega) (by have := HL.out; show w.heap.size ≤ hb; omega) (.slice A2 n2 c2))
    have B10 := Aside0.mk (B9.out.set 2 (.slice A2 n2 c2))
    have Z10 := Aside0.mk (Z9.out.far (a := ⟨hb, 2, none⟩) (by have := HL.out; show hb ≠ w.heap.size; omega) (.slice A2 n2 c2))
    clear R9 B9 Z9
    generalize w9.setCell ⟨hb, 2, none⟩ (.slice A2 n2 c2) = w10 at *
    have HB := number_calls R10.out 1 (by omega)
    rw [HS7.out, show numF (x7, p7, e7).1 = (n7 : Int) from N7.out] at HB
    have HM := Aside0.mk (fun (W : World) (hi : Inn w W rb A c l p7 e7) => most_calls hi n7 (by omega) 20)
    rw [HS8.out] at HM
    go_upto_region 16 with (first | (go_at_call 14; refine HB.mono ?_; rintro e9 w11 ⟨rfl, hr, ho⟩; have HO := Aside0.mk ho; have R11 := Aside0.mk hr; have B11 := Aside0.mk (B10.out.only ho (by have := HL.out; omega)); have Z11 := Aside0.mk (Z10.out.only ho (by have := HL.out; omega)); clear ho hr) | (go_at_call 17; refine (HM.out _ R11.out).mono ?_; rintro e9 w12 ⟨v9, rfl, ⟨A3, c3, e9, hrC, hrL⟩, hr, ho⟩; obtain ⟨n3, hn9⟩ : ∃ n, x8.length = n := ⟨_, rfl⟩; have W3 := Aside0.mk (show Row0 w (.slice A3 n3 c3) x8 from ⟨A3, c3, by rw [hn9], hrC, hrL⟩); obtain rfl : v9 = .slice A3 n3 c3 := e9.trans (by rw [← hn9]); clear hrC hrL hn9 e9; have HO2 := Aside0.mk ho; have R12 := Aside0.mk hr; have hb9 := B11.out.only ho (by have := HL.out; omega); have B12 := Aside0.mk hb9; have Z12 := Aside0.mk (Z11.out.only ho (by have := HL.out; omega)); have q3 := hb9.cell 3 _ rfl; have g3 := hb9.frozen 3; clear hb9 ho hr))
    clear HB HM HO HO2 R10 B10 Z10 R11 B11 Z11 q3 g3
    have R13 := Aside0.mk (R12.out.far (a := ⟨hb, 3, none⟩) (by have := HL.out; show hb ≠ rb; omega) (by have := HL.out; show w.heap.size ≤ hb; omega) (.slice A3 n3 c3))
    have B13 := Aside0.mk (B12.out.set 3 (.slice A3 n3 c3))
    have Z13 := Aside0.mk (Z12.out.far (a := ⟨hb, 3, none⟩) (by have := HL.out; show hb ≠ w.heap.size; omega) (.slice A3 n3 c3))
    clear R12 B12 Z12
    generalize w12.setCell ⟨hb, 3, none⟩ (.slice A3 n3 c3) = w13 at *
    have q0 := B13.out.cell 0 _ rfl
    rcases HS10.out with ⟨k0, n9, p9, e9, h9, h10⟩ | ⟨k0, k1, k2, k3⟩
    · have d1 : (kd == 0) = true := by simp [k0]
      have d2 : decide (kd = 0) = true := decide_eq_true k0
      have hn9 : n9 ≤ 4611686018427387903 := by have := varS_bd l p8 e8; rw [h9] at this; exact this
      have HS9 := Aside0.mk h9
      have HS10b := Aside0.mk h10
      clear k0 h9 h10 HS10
      go_upto_region 17 with (fail)
      clear d1 d2 q0
      have HB := varint_calls R13.out
      rw [HS9.out] at HB
      have HM := Aside0.mk (fun (W : World) (hi : Inn w W rb A c l p9 e9) => most_calls hi n9 (by omega) 64)
      rw [HS10b.out] at HM
      go_upto_region 18 with (first | (go_at_call 18; refine HB.mono ?_; rintro e9 w14 ⟨rfl, hr, ho⟩; have HO := Aside0.mk ho; have R14 := Aside0.mk hr; have B14 := Aside0.mk (B13.out.only ho (by have := HL.out; omega)); have Z14 := Aside0.mk (Z13.out.only ho (by have := HL.out; omega)); clear ho hr) | (go_at_call 17; refine (HM.out _ R14.out).mono ?_; rintro e9 w15 ⟨v9, rfl, ⟨A4, c4, e9, hrC, hrL⟩, hr, ho⟩; obtain ⟨n4, hn9⟩ : ∃ n, x10.length = n := ⟨_, rfl⟩; have W4 := Aside0.mk (show Row0 w (.slice A4 n4 c4) x10 from ⟨A4, c4, by rw [hn9], hrC, hrL⟩); obtain rfl : v9 = .slice A4 n4 c4 := e9.trans (by rw [← hn9]); clear hrC hrL hn9 e9; have HO2 := Aside0.mk ho; have R15 := Aside0.mk hr; have hb9 := B14.out.only ho (by have := HL.out; omega); have B15 := Aside0.mk hb9; have Z15 := Aside0.mk (Z14.out.only ho (by have := HL.out; omega)); have q4 := hb9.cell 4 _ rfl; have g4 := hb9.frozen 4; clear hb9 ho hr))
      clear HB HM HO HO2 R13 B13 Z13 R14 B14 Z14 q4 g4
      have R16 := Aside0.mk (R15.out.far (a := ⟨hb, 4, none⟩) (by have := HL.out; show hb ≠ rb; omega) (by have := HL.out; show w.heap.size ≤ hb; omega) (.slice A4 n4 c4))
      have B16 := Aside0.mk (B15.out.set 4 (.slice A4 n4 c4))
      have Z16 := Aside0.mk (Z15.out.far (a := ⟨hb, 4, none⟩) (by have := HL.out; show hb ≠ w.heap.size; omega) (.slice A4 n4 c4))
      clear R15 B15 Z15
      generalize w15.setCell ⟨hb, 4, none⟩ (.slice A4 n4 c4) = w16 at *
      have HB := varint_calls R16.out
      rw [HS11.out] at HB
      go_upto_region 19 with (go_at_call 18; refine (HB).mono ?_; rintro e9 w17 ⟨rfl, hr, ho⟩; have HO := Aside0.mk ho; have R17 := Aside0.mk hr; have hb9 := B16.out.only ho (by have := HL.out; omega); have B17 := Aside0.mk hb9; have Z17 := Aside0.mk (Z16.out.only ho (by have := HL.out; omega)); have q7 := hb9.cell 7 _ rfl; have g7 := hb9.frozen 7; clear hb9 ho hr)
      clear R16 B16 Z16 HO
      clear HB g7
      go_upto_region 20 with (go_at_call 15; refine (HE11.out ▸ need_calls R17.out (decide (f % 4 + 1 ≤ (n : Int))) 3).mono ?_; rintro e9 w18 ⟨rfl, hr, ho⟩; have HO := Aside0.mk ho; have R18 := Aside0.mk hr; have hb9 := B17.out.only ho (by have := HL.out; omega); have B18 := Aside0.mk hb9; have Z18 := Aside0.mk (Z17.out.only ho (by have := HL.out; omega));  clear hb9 ho hr)
      clear R17 B17 Z17 HO
      clear q7
      have c1 := R18.out.c1
      go_upto_region 21 with (go_at_call 15; refine (HE12.out ▸ need_calls R18.out (decide ((n : Int) ≤ (l.length : Int) - (p11 : Int))) 2).mono ?_; rintro e9 w19 ⟨rfl, hr, ho⟩; have HO := Aside0.mk ho; have R19 := Aside0.mk hr; have hb9 := B18.out.only ho (by have := HL.out; omega); have B19 := Aside0.mk hb9; have Z19 := Aside0.mk (Z18.out.only ho (by have := HL.out; omega)); have q7 := hb9.cell 7 _ rfl; have g7 := hb9.frozen 7; clear hb9 ho hr)
      clear R18 B18 Z18 HO
      clear c1 g7
      have c1 := R19.out.c1
      go_upto_region 22 with (fail)
      clear c1
      have HN0 := H0.out
      have HB := number_calls R19.out (f % 4 + 1).toNat (by omega)
      rw [HS12.out, Int.toNat_of_nonneg (by omega)] at HB
      clear HN0
      go_upto_region 23 with (go_at_call 14; refine HB.mono ?_; rintro e9 w20 ⟨rfl, hr, ho⟩;  have HO := Aside0.mk ho; have R20 := Aside0.mk hr; have hb9 := B19.out.only ho (by have := HL.out; omega); have B20 := Aside0.mk hb9; have Z20 := Aside0.mk (Z19.out.only ho (by have := HL.out; omega)); have q6 := hb9.cell 6 _ rfl; have g6 := hb9.frozen 6; clear hb9 ho hr)
      clear HB R19 B19 Z19 HO q6 g6
      clear q7
      have R21 := Aside0.mk (R20.out.far (a := ⟨hb, 6, none⟩) (by have := HL.out; show hb ≠ rb; omega) (by have := HL.out; show w.heap.size ≤ hb; omega) (.int .i64 (numF x12)))
      have B21 := Aside0.mk (B20.out.set 6 (.int .i64 (numF x12)))
      have Z21 := Aside0.mk (Z20.out.far (a := ⟨hb, 6, none⟩) (by have := HL.out; show hb ≠ w.heap.size; omega) (.int .i64 (numF x12)))
      clear R20 B20 Z20
      generalize w20.setCell ⟨hb, 6, none⟩ (.int .i64 (numF x12)) = w21 at *
      by_cases he : e12 = 0
      · subst he
        have rr2 := R21.out.c2
        have b0 := B21.out.cell 0 _ rfl
        have b1 := B21.out.cell 1 _ rfl
        have b2 := B21.out.cell 2 _ rfl
        have b3 := B21.out.cell 3 _ rfl
        have b4 := B21.out.cell 4 _ rfl
        have b5 := B21.out.cell 5 _ rfl
        have b6 := B21.out.cell 6 _ rfl
        have b7 := B21.out.cell 7 _ rfl
        have z0 := Z21.out.cell 0 _ rfl
        have z1 := Z21.out.cell 1 _ rfl
        have z2 := Z21.out.cell 2 _ rfl
        have z3 := Z21.out.cell 3 _ rfl
        have z4 := Z21.out.cell 4 _ rfl
        have z5 := Z21.out.cell 5 _ rfl
        have z6 := Z21.out.cell 6 _ rfl
        have z7 := Z21.out.cell 7 _ rfl
        have y0 := Z21.out.frozen 0
        have y1 := Z21.out.frozen 1
        have y2 := Z21.out.frozen 2
        have y3 := Z21.out.frozen 3
        have y4 := Z21.out.frozen 4
        have y5 := Z21.out.frozen 5
        have y6 := Z21.out.frozen 6
        have y7 := Z21.out.frozen 7
        have r1 := R21.out.c1
        have r2 := R21.out.c2
        have zn1 : ¬ (rb = w.heap.size) := by have := HL.out; omega
        have zn2 : ¬ (w.heap.size = rb) := by have := HL.out; omega
        have zn3 : ¬ (hb = w.heap.size) := by have := HL.out; omega
        have zn4 : ¬ (w.heap.size = hb) := by have := HL.out; omega
        go_wp2
        go_region
        change Exit.then _ _ Exit.normal _ (Hr.put8 w21 w.heap.size (.int .i64 kd) (.int .i64 (numF x4)) (.slice A2 n2 c2) (.slice A3 n3 c3) (.slice A4 n4 c4) (.int .i64 0) (.int .i64 (numF x12)) (.int .i64 (f % 4 + 1))).drew
        have o8 := Hr.put8_only w21 w.heap.size (.int .i64 kd) (.int .i64 (numF x4)) (.slice A2 n2 c2) (.slice A3 n3 c3) (.slice A4 n4 c4) (.int .i64 0) (.int .i64 (numF x12)) (.int .i64 (f % 4 + 1))
        have R9 := (R21.out.only o8 (by have := HL.out; omega) (Nat.le_refl _)).bl
        have B8 := (put8_hk Z21.out (.int .i64 kd) (.int .i64 (numF x4)) (.slice A2 n2 c2) (.slice A3 n3 c3) (.slice A4 n4 c4) (.int .i64 0) (.int .i64 (numF x12)) (.int .i64 (f % 4 + 1))).only ((Only.refl (fun _ => False) _).drew) (fun q => q)
        have R8 := below_drew1 R9
        clear b0 b1 b2 b3 b4 b5 b6 b7 z0 z1 z2 z3 z4 z5 z6 z7 y0 y1 y2 y3 y4 y5 y6 y7 r1 r2 zn1 zn2 zn3 zn4 o8 R9
        generalize (Hr.put8 w21 w.heap.size (.int .i64 kd) (.int .i64 (numF x4)) (.slice A2 n2 c2) (.slice A3 n3 c3) (.slice A4 n4 c4) (.int .i64 0) (.int .i64 (numF x12)) (.int .i64 (f % 4 + 1))).drew = w99 at *
        have xx0 := B8.cell 0 _ rfl
        have xx1 := B8.cell 1 _ rfl
        have xx2 := B8.cell 2 _ rfl
        have xx3 := B8.cell 3 _ rfl
        have xx4 := B8.cell 4 _ rfl
        have xx5 := B8.cell 5 _ rfl
        have xx6 := B8.cell 6 _ rfl
        have xx7 := B8.cell 7 _ rfl
        clear B8
        have R88 := Aside0.mk R8
        clear R8
        go_wp2
        refine bodyPost_ret (v := .tuple #[.agg #[.int .i64 kd, .int .i64 (numF x4), .slice A2 n2 c2, .slice A3 n3 c3, .slice A4 n4 c4, .int .i64 0, .int .i64 (numF x12), .int .i64 (f % 4 + 1)], .int .i64 p12, .int .i64 ((p11 : Int) + (n : Int)), .int .i64 0]) ?_ rfl ?_
        · simp [results, Tryd.results6, go_sem, xx0, xx1, xx2, xx3, xx4, xx5, xx6, xx7]
        · exact .inl ⟨rfl, _, _, _, rfl, W2.out, W3.out, W4.out, R88.out⟩
      · have HE := Aside0.mk he
        have d1 : (e12 == 0) = false := by simpa using he
        have d2 : decide (e12 = 0) = false := decide_eq_false he
        clear he
        have rr2 := R21.out.c2
        have b0 := B21.out.cell 0 _ rfl
        have b1 := B21.out.cell 1 _ rfl
        have b2 := B21.out.cell 2 _ rfl
        have b3 := B21.out.cell 3 _ rfl
        have b4 := B21.out.cell 4 _ rfl
        have b5 := B21.out.cell 5 _ rfl
        have b6 := B21.out.cell 6 _ rfl
        have b7 := B21.out.cell 7 _ rfl
        have z0 := Z21.out.cell 0 _ rfl
        have z1 := Z21.out.cell 1 _ rfl
        have z2 := Z21.out.cell 2 _ rfl
        have z3 := Z21.out.cell 3 _ rfl
        have z4 := Z21.out.cell 4 _ rfl
        have z5 := Z21.out.cell 5 _ rfl
        have z6 := Z21.out.cell 6 _ rfl
        have z7 := Z21.out.cell 7 _ rfl
        have y0 := Z21.out.frozen 0
        have y1 := Z21.out.frozen 1
        have y2 := Z21.out.frozen 2
        have y3 := Z21.out.frozen 3
        have y4 := Z21.out.frozen 4
        have y5 := Z21.out.frozen 5
        have y6 := Z21.out.frozen 6
        have y7 := Z21.out.frozen 7
        have r1 := R21.out.c1
        have r2 := R21.out.c2
        have zn1 : ¬ (rb = w.heap.size) := by have := HL.out; omega
        have zn2 : ¬ (w.heap.size = rb) := by have := HL.out; omega
        have zn3 : ¬ (hb = w.heap.size) := by have := HL.out; omega
        have zn4 : ¬ (w.heap.size = hb) := by have := HL.out; omega
        go_wp2
        go_region
        change Exit.then _ _ Exit.normal _ (Hr.put8 w21 w.heap.size (.int .i64 0) (.int .i64 0) (.slice none 0 0) (.slice none 0 0) (.slice none 0 0) (.int .i64 0) (.int .i64 0) (.int .i64 0)).drew
        have o8 := Hr.put8_only w21 w.heap.size (.int .i64 0) (.int .i64 0) (.slice none 0 0) (.slice none 0 0) (.slice none 0 0) (.int .i64 0) (.int .i64 0) (.int .i64 0)
        have R9 := (R21.out.only o8 (by have := HL.out; omega) (Nat.le_refl _)).bl
        have B8 := (put8_hk Z21.out (.int .i64 0) (.int .i64 0) (.slice none 0 0) (.slice none 0 0) (.slice none 0 0) (.int .i64 0) (.int .i64 0) (.int .i64 0)).only ((Only.refl (fun _ => False) _).drew) (fun q => q)
        have R8 := below_drew1 R9
        clear b0 b1 b2 b3 b4 b5 b6 b7 z0 z1 z2 z3 z4 z5 z6 z7 y0 y1 y2 y3 y4 y5 y6 y7 r1 r2 zn1 zn2 zn3 zn4 o8 R9
        generalize (Hr.put8 w21 w.heap.size (.int .i64 0) (.int .i64 0) (.slice none 0 0) (.slice none 0 0) (.slice none 0 0) (.int .i64 0) (.int .i64 0) (.int .i64 0)).drew = w99 at *
        have xx0 := B8.cell 0 _ rfl
        have xx1 := B8.cell 1 _ rfl
        have xx2 := B8.cell 2 _ rfl
        have xx3 := B8.cell 3 _ rfl
        have xx4 := B8.cell 4 _ rfl
        have xx5 := B8.cell 5 _ rfl
        have xx6 := B8.cell 6 _ rfl
        have xx7 := B8.cell 7 _ rfl
        clear B8
        have R88 := Aside0.mk R8
        clear R8
        go_wp2
        refine bodyPost_ret (v := .tuple #[.agg #[.int .i64 0, .int .i64 0, .slice none 0 0, .slice none 0 0, .slice none 0 0, .int .i64 0, .int .i64 0, .int .i64 0], .int .i64 0, .int .i64 0, .int .i64 e12]) ?_ rfl ?_
        · simp [results, Tryd.results6, go_sem, xx0, xx1, xx2, xx3, xx4, xx5, xx6, xx7]
        · exact .inr ⟨HE.out, _, _, _, rfl, row0_nil _, row0_nil _, row0_nil _, R88.out⟩
    · have d1 : (kd == 0) = false := by simp [k0]
      have d2 : decide (kd = 0) = false := decide_eq_false k0
      clear k0 HS10
      subst k1 k2 k3
      go_upto_region 18 with (fail)
      clear d1 d2 q0
      have HB := varint_calls R13.out
      rw [HS11.out] at HB
      go_upto_region 19 with (go_at_call 18; refine (HB).mono ?_; rintro e9 w14 ⟨rfl, hr, ho⟩; have HO := Aside0.mk ho; have R14 := Aside0.mk hr; have hb9 := B13.out.only ho (by have := HL.out; omega); have B14 := Aside0.mk hb9; have Z14 := Aside0.mk (Z13.out.only ho (by have := HL.out; omega)); have q7 := hb9.cell 7 _ rfl; have g7 := hb9.frozen 7; clear hb9 ho hr)
      clear R13 B13 Z13 HO
      clear HB g7
      go_upto_region 20 with (go_at_call 15; refine (HE11.out ▸ need_calls R14.out (decide (f % 4 + 1 ≤ (n : Int))) 3).mono ?_; rintro e9 w15 ⟨rfl, hr, ho⟩; have HO := Aside0.mk ho; have R15 := Aside0.mk hr; have hb9 := B14.out.only ho (by have := HL.out; omega); have B15 := Aside0.mk hb9; have Z15 := Aside0.mk (Z14.out.only ho (by have := HL.out; omega));  clear hb9 ho hr)
      clear R14 B14 Z14 HO
      clear q7
      have c1 := R15.out.c1
      go_upto_region 21 with (go_at_call 15; refine (HE12.out ▸ need_calls R15.out (decide ((n : Int) ≤ (l.length : Int) - (p11 : Int))) 2).mono ?_; rintro e9 w16 ⟨rfl, hr, ho⟩; have HO := Aside0.mk ho; have R16 := Aside0.mk hr; have hb9 := B15.out.only ho (by have := HL.out; omega); have B16 := Aside0.mk hb9; have Z16 := Aside0.mk (Z15.out.only ho (by have := HL.out; omega)); have q7 := hb9.cell 7 _ rfl; have g7 := hb9.frozen 7; clear hb9 ho hr)
      clear R15 B15 Z15 HO
      clear c1 g7
      have c1 := R16.out.c1
      go_upto_region 22 with (fail)
      clear c1
      have HN0 := H0.out
      have HB := number_calls R16.out (f % 4 + 1).toNat (by omega)
      rw [HS12.out, Int.toNat_of_nonneg (by omega)] at HB
      clear HN0
      go_upto_region 23 with (go_at_call 14; refine HB.mono ?_; rintro e9 w17 ⟨rfl, hr, ho⟩;  have HO := Aside0.mk ho; have R17 := Aside0.mk hr; have hb9 := B16.out.only ho (by have := HL.out; omega); have B17 := Aside0.mk hb9; have Z17 := Aside0.mk (Z16.out.only ho (by have := HL.out; omega)); have q6 := hb9.cell 6 _ rfl; have g6 := hb9.frozen 6; clear hb9 ho hr)
      clear HB R16 B16 Z16 HO q6 g6
      clear q7
      have R18 := Aside0.mk (R17.out.far (a := ⟨hb, 6, none⟩) (by have := HL.out; show hb ≠ rb; omega) (by have := HL.out; show w.heap.size ≤ hb; omega) (.int .i64 (numF x12)))
      have B18 := Aside0.mk (B17.out.set 6 (.int .i64 (numF x12)))
      have Z18 := Aside0.mk (Z17.out.far (a := ⟨hb, 6, none⟩) (by have := HL.out; show hb ≠ w.heap.size; omega) (.int .i64 (numF x12)))
      clear R17 B17 Z17
      generalize w17.setCell ⟨hb, 6, none⟩ (.int .i64 (numF x12)) = w18 at *
      by_cases he : e12 = 0
      · subst he
        have rr2 := R18.out.c2
        have b0 := B18.out.cell 0 _ rfl
        have b1 := B18.out.cell 1 _ rfl
        have b2 := B18.out.cell 2 _ rfl
        have b3 := B18.out.cell 3 _ rfl
        have b4 := B18.out.cell 4 _ rfl
        have b5 := B18.out.cell 5 _ rfl
        have b6 := B18.out.cell 6 _ rfl
        have b7 := B18.out.cell 7 _ rfl
        have z0 := Z18.out.cell 0 _ rfl
        have z1 := Z18.out.cell 1 _ rfl
        have z2 := Z18.out.cell 2 _ rfl
        have z3 := Z18.out.cell 3 _ rfl
        have z4 := Z18.out.cell 4 _ rfl
        have z5 := Z18.out.cell 5 _ rfl
        have z6 := Z18.out.cell 6 _ rfl
        have z7 := Z18.out.cell 7 _ rfl
        have y0 := Z18.out.frozen 0
        have y1 := Z18.out.frozen 1
        have y2 := Z18.out.frozen 2
        have y3 := Z18.out.frozen 3
        have y4 := Z18.out.frozen 4
        have y5 := Z18.out.frozen 5
        have y6 := Z18.out.frozen 6
        have y7 := Z18.out.frozen 7
        have r1 := R18.out.c1
        have r2 := R18.out.c2
        have zn1 : ¬ (rb = w.heap.size) := by have := HL.out; omega
        have zn2 : ¬ (w.heap.size = rb) := by have := HL.out; omega
        have zn3 : ¬ (hb = w.heap.size) := by have := HL.out; omega
        have zn4 : ¬ (w.heap.size = hb) := by have := HL.out; omega
        go_wp2
        go_region
        change Exit.then _ _ Exit.normal _ (Hr.put8 w18 w.heap.size (.int .i64 kd) (.int .i64 (numF x4)) (.slice A2 n2 c2) (.slice A3 n3 c3) (.slice none 0 0) (.int .i64 0) (.int .i64 (numF x12)) (.int .i64 (f % 4 + 1))).drew
        have o8 := Hr.put8_only w18 w.heap.size (.int .i64 kd) (.int .i64 (numF x4)) (.slice A2 n2 c2) (.slice A3 n3 c3) (.slice none 0 0) (.int .i64 0) (.int .i64 (numF x12)) (.int .i64 (f % 4 + 1))
        have R9 := (R18.out.only o8 (by have := HL.out; omega) (Nat.le_refl _)).bl
        have B8 := (put8_hk Z18.out (.int .i64 kd) (.int .i64 (numF x4)) (.slice A2 n2 c2) (.slice A3 n3 c3) (.slice none 0 0) (.int .i64 0) (.int .i64 (numF x12)) (.int .i64 (f % 4 + 1))).only ((Only.refl (fun _ => False) _).drew) (fun q => q)
        have R8 := below_drew1 R9
        clear b0 b1 b2 b3 b4 b5 b6 b7 z0 z1 z2 z3 z4 z5 z6 z7 y0 y1 y2 y3 y4 y5 y6 y7 r1 r2 zn1 zn2 zn3 zn4 o8 R9
        generalize (Hr.put8 w18 w.heap.size (.int .i64 kd) (.int .i64 (numF x4)) (.slice A2 n2 c2) (.slice A3 n3 c3) (.slice none 0 0) (.int .i64 0) (.int .i64 (numF x12)) (.int .i64 (f % 4 + 1))).drew = w99 at *
        have xx0 := B8.cell 0 _ rfl
        have xx1 := B8.cell 1 _ rfl
        have xx2 := B8.cell 2 _ rfl
        have xx3 := B8.cell 3 _ rfl
        have xx4 := B8.cell 4 _ rfl
        have xx5 := B8.cell 5 _ rfl
        have xx6 := B8.cell 6 _ rfl
        have xx7 := B8.cell 7 _ rfl
        clear B8
        have R88 := Aside0.mk R8
        clear R8
        go_wp2
        refine bodyPost_ret (v := .tuple #[.agg #[.int .i64 kd, .int .i64 (numF x4), .slice A2 n2 c2, .slice A3 n3 c3, .slice none 0 0, .int .i64 0, .int .i64 (numF x12), .int .i64 (f % 4 + 1)], .int .i64 p12, .int .i64 ((p11 : Int) + (n : Int)), .int .i64 0]) ?_ rfl ?_
        · simp [results, Tryd.results6, go_sem, xx0, xx1, xx2, xx3, xx4, xx5, xx6, xx7]
        · exact .inl ⟨rfl, _, _, _, rfl, W2.out, W3.out, row0_nil _, R88.out⟩
      · have HE := Aside0.mk he
        have d1 : (e12 == 0) = false := by simpa using he
        have d2 : decide (e12 = 0) = false := decide_eq_false he
        clear he
        have rr2 := R18.out.c2
        have b0 := B18.out.cell 0 _ rfl
        have b1 := B18.out.cell 1 _ rfl
        have b2 := B18.out.cell 2 _ rfl
        have b3 := B18.out.cell 3 _ rfl
        have b4 := B18.out.cell 4 _ rfl
        have b5 := B18.out.cell 5 _ rfl
        have b6 := B18.out.cell 6 _ rfl
        have b7 := B18.out.cell 7 _ rfl
        have z0 := Z18.out.cell 0 _ rfl
        have z1 := Z18.out.cell 1 _ rfl
        have z2 := Z18.out.cell 2 _ rfl
        have z3 := Z18.out.cell 3 _ rfl
        have z4 := Z18.out.cell 4 _ rfl
        have z5 := Z18.out.cell 5 _ rfl
        have z6 := Z18.out.cell 6 _ rfl
        have z7 := Z18.out.cell 7 _ rfl
        have y0 := Z18.out.frozen 0
        have y1 := Z18.out.frozen 1
        have y2 := Z18.out.frozen 2
        have y3 := Z18.out.frozen 3
        have y4 := Z18.out.frozen 4
        have y5 := Z18.out.frozen 5
        have y6 := Z18.out.frozen 6
        have y7 := Z18.out.frozen 7
        have r1 := R18.out.c1
        have r2 := R18.out.c2
        have zn1 : ¬ (rb = w.heap.size) := by have := HL.out; omega
        have zn2 : ¬ (w.heap.size = rb) := by have := HL.out; omega
        have zn3 : ¬ (hb = w.heap.size) := by have := HL.out; omega
        have zn4 : ¬ (w.heap.size = hb) := by have := HL.out; omega
        go_wp2
        go_region
        change Exit.then _ _ Exit.normal _ (Hr.put8 w18 w.heap.size (.int .i64 0) (.int .i64 0) (.slice none 0 0) (.slice none 0 0) (.slice none 0 0) (.int .i64 0) (.int .i64 0) (.int .i64 0)).drew
        have o8 := Hr.put8_only w18 w.heap.size (.int .i64 0) (.int .i64 0) (.slice none 0 0) (.slice none 0 0) (.slice none 0 0) (.int .i64 0) (.int .i64 0) (.int .i64 0)
        have R9 := (R18.out.only o8 (by have := HL.out; omega) (Nat.le_refl _)).bl
        have B8 := (put8_hk Z18.out (.int .i64 0) (.int .i64 0) (.slice none 0 0) (.slice none 0 0) (.slice none 0 0) (.int .i64 0) (.int .i64 0) (.int .i64 0)).only ((Only.refl (fun _ => False) _).drew) (fun q => q)
        have R8 := below_drew1 R9
        clear b0 b1 b2 b3 b4 b5 b6 b7 z0 z1 z2 z3 z4 z5 z6 z7 y0 y1 y2 y3 y4 y5 y6 y7 r1 r2 zn1 zn2 zn3 zn4 o8 R9
        generalize (Hr.put8 w18 w.heap.size (.int .i64 0) (.int .i64 0) (.slice none 0 0) (.slice none 0 0) (.slice none 0 0) (.int .i64 0) (.int .i64 0) (.int .i64 0)).drew = w99 at *
        have xx0 := B8.cell 0 _ rfl
        have xx1 := B8.cell 1 _ rfl
        have xx2 := B8.cell 2 _ rfl
        have xx3 := B8.cell 3 _ rfl
        have xx4 := B8.cell 4 _ rfl
        have xx5 := B8.cell 5 _ rfl
        have xx6 := B8.cell 6 _ rfl
        have xx7 := B8.cell 7 _ rfl
        clear B8
        have R88 := Aside0.mk R8
        clear R8
        go_wp2
        refine bodyPost_ret (v := .tuple #[.agg #[.int .i64 0, .int .i64 0, .slice none 0 0, .slice none 0 0, .slice none 0 0, .int .i64 0, .int .i64 0, .int .i64 0], .int .i64 0, .int .i64 0, .int .i64 e12]) ?_ rfl ?_
        · simp [results, Tryd.results6, go_sem, xx0, xx1, xx2, xx3, xx4, xx5, xx6, xx7]
        · exact .inr ⟨HE.out, _, _, _, rfl, row0_nil _, row0_nil _, row0_nil _, R88.out⟩
end Go.Proofs.YtpihkmpcnkhnfaaDoor.Ri
