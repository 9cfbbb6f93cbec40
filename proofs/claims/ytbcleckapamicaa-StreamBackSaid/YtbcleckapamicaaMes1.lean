/- stream.messages' closure, whatever its yield does: it writes its captured cell between two rounds. -/
import Derived.Test.YtbcleckapamicaaMes0
import Derived.RangeFuncBox
import Derived.RangeFuncNested
import Derived.RangeFuncCalls
import Derived.RangeFuncLeaves
import Derived.Shelf.Abstract
import Derived.WalkKit
import Derived.OwnWalkIn
import Derived.TacticsInMore
import Derived.LoopNIn
import Derived.LoopIn
import Derived.Sort.LoopGhostIn
import Derived.Deep.QuietTactic
import Derived.BigQuiet
import Derived.Maps.AppendAt
namespace Go.Proofs.Ytbcleckapamicaa.Mes
open Go Go.RowKit Go.Shelf Go.Proofs.YtbcleckapamicaaW.PrintWords Go.Proofs.YtbcleckapamicaaW.PrintLast Go.Proofs.YtbcleckapamicaaW.PrintMore
attribute [local go_sem] Oper.semAt_some
open Go.Proofs.Ytbcleckapamicaa.Stm (Bytes bytes_rd mlen info5 long_calls)
set_option linter.unusedVariables false
set_option linter.unusedSimpArgs false

theorem parts_nil (f : Nat) : parts f [] = some [] := by cases f <;> simp [parts]
theorem parts_bad {f : Nat} {b : List Int} (hf : 0 < f) (h : b ≠ []) (q : b.length < 4 ∨ 2004 < mlen b ∨ (b.length : Int) < mlen b) : parts f b = none := by
  cases f with
  | zero => omega
  | succ f => rw [parts, if_neg h, if_pos q]
theorem parts_step {f : Nat} {b : List Int} (h : b ≠ []) (q : ¬ (b.length < 4 ∨ 2004 < mlen b ∨ (b.length : Int) < mlen b)) : parts (f + 1) b = (parts f (b.drop (mlen b).toNat)).map (b.take (mlen b).toNat :: ·) := by
  rw [parts, if_neg h, if_neg q]
theorem Bytes.drop' {l : List Int} (h : Bytes l) (n : Nat) : Bytes (l.drop n) := fun x hx => h x (List.mem_of_mem_drop hx)
theorem mlen_ge {l : List Int} (hB : Bytes l) (h : 4 ≤ l.length) : 4 ≤ mlen l := by
  have h1 := bytes_rd hB 1 (by omega)
  have h2 := bytes_rd hB 2 (by omega)
  have h3 := bytes_rd hB 3 (by omega)
  unfold mlen
  simp only [Int.natCast_one, Int.cast_ofNat_Int] at *
  omega

theorem long_at {rest : List Int} {A : Option Addr} {w0 W : World} (c : Nat) {m : Nat} (hC : Kd.C (Kd.int .u8) w0 A rest.length rest) (hb : Below w0.heap.size w0 W) (h4 : 4 ≤ rest.length) (hB : Bytes rest) (hm : mlen rest = (m : Int)) :
    Calls Try.prog 49 #[.slice A rest.length c] W fun e w' => e = .returned (.int .i64 (m : Int)) ∧ w' = W.drew := by
  rw [← hm]
  exact long_calls A c rest (Kd.C_below hC hb) h4 hB
theorem long_quiet {rest : List Int} {A : Option Addr} {w0 W : World} (c : Nat) {m : Nat} (hC : Kd.C (Kd.int .u8) w0 A rest.length rest) (hb : Below w0.heap.size w0 W) (h4 : 4 ≤ rest.length) (hB : Bytes rest) (hm : mlen rest = (m : Int)) (n : Nat) :
    Calls Try.prog 49 #[.slice A rest.length c] (W.drewN n) fun e w'' => e = .returned (.int .i64 (m : Int)) ∧ ∃ k, w'' = W.drewN k :=
  (long_at c hC (pw_below_drewN hb n) h4 hB hm).mono fun _ _ ⟨h1, h2⟩ => ⟨h1, n + 1, h2⟩

set_option maxHeartbeats 4000000 in
set_option maxRecDepth 100000 in
theorem each_calls (l Bn : Nat) (w0 : World) (b : List Int) (hl : b.length ≤ 100000) (hB : Bytes b) (J Jx : List (List Int) → World → Prop)
    (hJb : ∀ ms W W', J ms W → Below W.heap.size W W' → J ms W') (hJs : ∀ ms W v, J ms W → J ms (W.setCell ⟨Bn, 0, none⟩ v)) (hJ0 : ∀ ms W, J ms W → Below w0.heap.size w0 W) (hBn : w0.heap.size ≤ Bn)
    (hY : ∀ ms m Wc W A c u, J ms Wc → Below Wc.heap.size Wc W → Kd.R (Kd.int .u8) 5 W Wc.heap.size (fun _ => True) (.slice A m.length c) m → 0 < m.length → m.length ≤ 2004 → ms.length ≤ 100000 → Boxed W Bn 44 u →
      YieldAt Fence.wide 1 Try.prog l #[.slice A m.length c] W fun e W' => e = .returned (.bool true) ∧ J (ms ++ [m]) W' ∧ Boxed W' Bn 44 u)
    (hN : ∀ ms W, J ms W → YieldAt Fence.wide 1 Try.prog l #[.slice none 0 0] W fun e W' => e = .returned (.bool false) ∧ Jx ms W')
    (W : World) (A : Option Addr) (c : Nat) (hbx : Boxed W Bn 44 (.slice A b.length c)) (hC : Kd.C (Kd.int .u8) w0 A b.length b) (hc : b.length ≤ c) (h0 : J [] W) :
    CallsIn Fence.wide 2 Try.prog 66 #[.func (.yield l) #[] #[], .pointer (some ⟨Bn, 0, none⟩)] W fun e W' => (∃ v, e = .returned v) ∧ ((∃ ms, mesF b = some ms ∧ J ms W') ∨ (mesF b = none ∧ ∃ ms, Jx ms W')) := by
  refine callsIn_of_wp Try.func66 rfl trivial ?_ rfl
  simp only [Try.ntmps66, List.size_toArray, List.length_cons, List.length_nil, Nat.reduceAdd, Nat.reduceSub, Array.replicate_succ, Array.replicate_zero, List.push_toArray, List.append_toArray, List.nil_append, List.cons_append]
  have BX := Aside0.mk hbx
  have HC := Aside0.mk hC
  have HJ := Aside0.mk h0
  have AY := Aside0.mk hY
  have AN := Aside0.mk hN
  have AB := Aside0.mk hJb
  have AS := Aside0.mk hJs
  have A0 := Aside0.mk hJ0
  have BB := Aside0.mk hB
  clear hbx hC h0 hY hN hJb hJs hJ0 hB
  gi_wp2
  gi_loopg [3] b.length (fun gg v3 wr => ∃ (ms : List (List Int)) (rest : List Int) (f : Nat) (A : Option Addr) (c : Nat), rest.length ≤ gg ∧ rest.length < f ∧ Aside0 (mesF b = (parts f rest).map (ms ++ ·)) ∧ Aside0 (J ms wr) ∧ Aside0 (Boxed wr Bn 44 (.slice A rest.length c)) ∧ Aside0 (Kd.C (Kd.int .u8) w0 A rest.length rest) ∧ rest.length ≤ c ∧ Aside0 (Bytes rest) ∧ Aside0 (ms.length + rest.length ≤ b.length))
  case atStart => exact ⟨[], b, b.length + 1, A, c, Nat.le_refl _, by omega, ⟨by unfold mesF; simp⟩, HJ, BX, HC, hc, BB, ⟨by simp⟩⟩
  case round =>
    obtain ⟨ms, rest, f, A', c', hg, hf, HP, HJ', BX', HC', hc', BB', HL⟩ := hrel
    clear HJ BX HC
    have hcell := BX'.out.cell
    by_cases he : rest = []
    · subst he
      have HR := Aside0.mk (HP.out.trans (by rw [parts_nil]; simp : (parts f ([] : List Int)).map (ms ++ ·) = some ms))
      have hcell : wr.cell? { block := Bn, off := 0 } = some (Value.slice A' 0 c') := hcell
      clear hg hf HP BX' HC' hc' BB' HL
      gi_wp2
      go_end0
      exact ⟨⟨_, rfl⟩, .inl ⟨ms, HR.out, HJ'.out⟩⟩
    · have hpos : 0 < rest.length := List.length_pos_iff.mpr he
      have p0 : decide ((0 : Int) < (rest.length : Int)) = true := decide_eq_true (by omega)
      have p1 : decide (0 < rest.length) = true := decide_eq_true hpos
      have HE := Aside0.mk he
      have HF := Aside0.mk (show 0 < f by omega)
      have HFF := Aside0.mk hf
      have HG := Aside0.mk hg
      have HC0 := Aside0.mk hc'
      have HPOS := Aside0.mk hpos
      clear he hf hg hc' hpos
      by_cases h4 : rest.length < 4
      · have d4 : decide ((rest.length : Int) < 4) = true := decide_eq_true (by omega)
        have d4' : decide (rest.length < 4) = true := decide_eq_true h4
        have HW := Aside0.mk (show rest.length < 4 ∨ 2004 < mlen rest ∨ (rest.length : Int) < mlen rest from .inl h4)
        clear h4
        gi_wp2
        refine wpIn_wide.2 ?_
        go_quiet (fail)
        obtain ⟨fn, tm, asg, bd, hy, hR⟩ := AN.out ms (wr.drewN nq) (AB.out _ _ _ HJ'.out (pw_below_drewN (Below.refl _ _) nq))
        gi_wp2
        refine hR.mono ?_
        rintro e W' ⟨rfl, hx⟩
        gi_wp2
        refine bodyPost_ret (results_none rfl _ _ _) rfl ?_
        exact ⟨⟨_, rfl⟩, .inr ⟨by rw [HP.out, parts_bad HF.out HE.out HW.out]; rfl, ms, hx⟩⟩
      · have d4 : decide ((rest.length : Int) < 4) = false := decide_eq_false (by omega)
        have d4' : decide (rest.length < 4) = false := decide_eq_false h4
        have H4 := Aside0.mk (show 4 ≤ rest.length by omega)
        have H4' := Aside0.mk h4
        have hge := mlen_ge BB'.out H4.out
        obtain ⟨m, hm⟩ : ∃ m : Nat, mlen rest = (m : Int) := ⟨(mlen rest).toNat, by omega⟩
        have HM := Aside0.mk hm
        have HM4 := Aside0.mk (show 4 ≤ m by omega)
        clear h4 hge hm
        by_cases h5 : 2004 < m
        · have d5 : decide ((2004 : Int) < (m : Int)) = true := decide_eq_true (by omega)
          have d5' : decide (2004 < m) = true := decide_eq_true h5
          have HW := Aside0.mk (show rest.length < 4 ∨ 2004 < mlen rest ∨ (rest.length : Int) < mlen rest from .inr (.inl (by rw [HM.out]; omega)))
          clear h5
          gi_wp2
          refine wpIn_wide.2 ?_
          go_quiet (((go_at_call 49; exact long_quiet _ HC'.out (A0.out _ _ HJ'.out) H4.out BB'.out HM.out _)))
          obtain ⟨fn, tm, asg, bd, hy, hR⟩ := AN.out ms (wr.drewN nq) (AB.out _ _ _ HJ'.out (pw_below_drewN (Below.refl _ _) nq))
          gi_wp2
          refine hR.mono ?_
          rintro e W' ⟨rfl, hx⟩
          gi_wp2
          refine bodyPost_ret (results_none rfl _ _ _) rfl ?_
          exact ⟨⟨_, rfl⟩, .inr ⟨by rw [HP.out, parts_bad HF.out HE.out HW.out]; rfl, ms, hx⟩⟩
        · have d5 : decide ((2004 : Int) < (m : Int)) = false := decide_eq_false (by omega)
          have d5' : decide (2004 < m) = false := decide_eq_false h5
          by_cases h6 : rest.length < m
          · have d6 : decide ((rest.length : Int) < (m : Int)) = true := decide_eq_true (by omega)
            have d6' : decide (rest.length < m) = true := decide_eq_true h6
            have HW := Aside0.mk (show rest.length < 4 ∨ 2004 < mlen rest ∨ (rest.length : Int) < mlen rest from .inr (.inr (by rw [HM.out]; omega)))
            clear h5 h6
            gi_wp2
            refine wpIn_wide.2 ?_
            go_quiet (((go_at_call 49; exact long_quiet _ HC'.out (A0.out _ _ HJ'.out) H4.out BB'.out HM.out _)))
            obtain ⟨fn, tm, asg, bd, hy, hR⟩ := AN.out ms (wr.drewN nq) (AB.out _ _ _ HJ'.out (pw_below_drewN (Below.refl _ _) nq))
            gi_wp2
            refine hR.mono ?_
            rintro e W' ⟨rfl, hx⟩
            gi_wp2
            refine bodyPost_ret (results_none rfl _ _ _) rfl ?_
            exact ⟨⟨_, rfl⟩, .inr ⟨by rw [HP.out, parts_bad HF.out HE.out HW.out]; rfl, ms, hx⟩⟩
          · have d6 : decide ((rest.length : Int) < (m : Int)) = false := decide_eq_false (by omega)
            have d6' : decide (rest.length < m) = false := decide_eq_false h6
            have H5 := Aside0.mk h5
            have H6 := Aside0.mk h6
            clear h5 h6
            obtain ⟨f', rfl⟩ : ∃ f', f = f' + 1 := ⟨f - 1, by have := HF.out; omega⟩
            have hmle : m ≤ rest.length := by have := H6.out; omega
            have HMLE := Aside0.mk hmle
            have HW := Aside0.mk (show ¬ (rest.length < 4 ∨ 2004 < mlen rest ∨ (rest.length : Int) < mlen rest) by rw [HM.out]; have := H4.out; have := H5.out; omega)
            have HPS := Aside0.mk (parts_step (f := f') HE.out HW.out)
            obtain ⟨ad, rfl, _⟩ := Kd.at_int HC'.out 0 (by omega) (by have := HPOS.out; omega)
            obtain ⟨tk, htk⟩ : ∃ tk, rest.take m = tk := ⟨_, rfl⟩
            obtain ⟨dr, hdr⟩ : ∃ dr, rest.drop m = dr := ⟨_, rfl⟩
            have HTK := Aside0.mk htk
            have HDR := Aside0.mk hdr
            have hlt4 : tk.length = m := by rw [← htk]; simp; omega
            have HLT := Aside0.mk hlt4
            have HLD := Aside0.mk (show dr.length = rest.length - m by rw [← hdr]; simp)
            obtain ⟨i05, hi5, _, hsz5, _⟩ := info_parts info5
            have hs4 : ∀ W : World, (Instr.slice 44 (.slice (some ad) rest.length c') none (some (.int .i64 (m : Int))) (some (.int .i64 (m : Int)))).run Try.prog W = .ok (.slice (some ad) tk.length m) W := fun W => by
              have hel : Try.prog.elem 44 = 5 := by simp [Program.elem, Try.underlying44]
              have hu : Try.prog.underlying 44 = some (.slice (Try.prog.elem 44)) := by rw [hel]; exact Try.underlying44
              rw [run_slice_hm W 44 (some ad) rest.length c' hu .i64 .i64 m m (by omega) (by omega) (by have := HC0.out; omega), hel, hlt4]
              simp [sizeOf, typeInfo, hi5, hsz5, sliced, Result.andThen, Addr.add]
            obtain ⟨A5, hs5, hR5, hc5⟩ := print_drop_of (P := Try.prog) (Value.int .u8) (0 : Int) 44 5 .i64 Try.underlying44 hi5 hsz5 (some ad) c' rest m (by omega) (by omega) HC0.out
            simp only [Int.toNat_natCast] at hs5 hR5 hc5
            rw [hdr] at hs5 hR5 hc5
            have HC5 := Aside0.mk (show Kd.C (Kd.int .u8) w0 A5 dr.length dr from Kd.C_of_reads (h1 := fun _ => rfl) (hR5 _ (Kd.reads_of_C HC'.out)))
            have HCC := Aside0.mk hc5
            have HCT := Aside0.mk (show Kd.C (Kd.int .u8) w0 (some ad) tk.length tk by
              rw [HLT.out, ← htk]
              exact Kd.C_of_reads (d := (0 : Int)) (h1 := fun _ => rfl) ((Kd.reads_of_C HC'.out).take_ m (by omega)))
            clear hmle hlt4 hi5 hsz5 hR5 hc5 htk hdr
            gi_wp2
            refine wpIn_wide.2 ?_
            go_quiet (((go_at_call 49; exact long_quiet _ HC'.out (A0.out _ _ HJ'.out) H4.out BB'.out HM.out _)))
            have B1 := Aside0.mk (A0.out _ _ HJ'.out)
            gi_wp2_with (first
              | (refine ⟨trivial, ?_⟩; gi_at_call 49; refine (callsIn_wide.2 (long_at _ HC'.out (pw_below_drewN B1.out nq) H4.out BB'.out HM.out)).mono ?_; rintro e1 w1 ⟨rfl, rfl⟩)
              | (refine ⟨trivial, ?_⟩; gi_at_call 67; refine (callsIn_wide.2 (clone_calls _ ad _ tk (Kd.C_below HCT.out (below_drew (pw_below_drewN B1.out nq))) (by rw [HLT.out]; have := H5.out; omega))).mono ?_; rintro e2 w2 ⟨v2, rfl, ho2, hb2⟩; have HO2 := Aside0.mk ho2; have HB2 := Aside0.mk hb2; clear ho2 hb2))
            obtain ⟨A2, c2, e2⟩ := Kd.R_slice HO2.out
            subst e2
            have HBX2 := Aside0.mk (show Boxed w2 Bn 44 (.slice (some ad) rest.length c') from (HB2.out.block Bn (show Bn < wr.heap.size from BX'.out.lt)).trans BX'.out)
            obtain ⟨fn, tm, asg, bd, hy, hR⟩ := AY.out ms tk _ w2 A2 c2 _ (AB.out ms wr _ HJ'.out (below_drew (pw_below_drewN (Below.refl _ _) nq))) HB2.out HO2.out (by rw [HLT.out]; have := HM4.out; omega) (by rw [HLT.out]; have := H5.out; omega) (by have := HL.out; have := HPOS.out; omega) HBX2.out
            clear hcell
            rw [hy]
            gi_wp2
            refine hR.mono ?_
            rintro e3 W3 ⟨rfl, hj3, hbx3⟩
            have HJ3 := Aside0.mk hj3
            have HBX3 := Aside0.mk hbx3
            have hcell := hbx3.cell
            have hfz := hbx3.frozen
            clear hj3 hbx3 hy hR
            gi_wp2
            gi_roundg dr.length
            case measure => have := HLD.out; have := HM4.out; have := HMLE.out; have := HPOS.out; have := HG.out; omega
            case rel =>
              refine ⟨ms ++ [tk], dr, f', A5, c' - m, Nat.le_refl _, ?_, ⟨?_⟩, ⟨AS.out _ _ _ HJ3.out⟩, ⟨HBX3.out.set _⟩, HC5, HCC.out, ⟨?_⟩, ⟨?_⟩⟩
              · have := HLD.out; have := HM4.out; have := HFF.out; have := HPOS.out; omega
              · have h1 := HPS.out
                rw [HM.out, Int.toNat_natCast, HTK.out, HDR.out] at h1
                rw [HP.out, h1, Option.map_map]
                congr 1
                funext z
                simp
              · rw [← HDR.out]; exact Bytes.drop' BB'.out m
              · have := HLD.out; have := HL.out; have := HM4.out; have := HMLE.out; simp; omega
end Go.Proofs.Ytbcleckapamicaa.Mes
