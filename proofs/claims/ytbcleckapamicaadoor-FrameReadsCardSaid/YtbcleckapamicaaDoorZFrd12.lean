/- A part of the proof of the law FrameReads: Fd8, Fd9, QFdx2, Rf0, Rf1. -/
import Derived.Test.YtbcleckapamicaaDoorZFrd11
import Derived.RangeFuncBox
import Derived.Recover
import Derived.Defers
import Derived.Test.YtbcleckapamicaaDoorZFrd09
import Derived.Test.YtbcleckapamicaaDoorZFrd10
namespace Go.Proofs.YtbcleckapamicaaDoor.Fd
open Go Go.RowKit Go.Proofs.YtbcleckapamicaaDoorW.PrintWords Go.Proofs.YtbcleckapamicaaDoorW.PrintLast Go.Proofs.YtbcleckapamicaaDoorW.PrintMore
open Go.Proofs.YtbcleckapamicaaDoor.QFr (S58 S103 k58 k103)
open Go.Proofs.YtbcleckapamicaaDoor.Onl (Only)
open Go.Proofs.YtbcleckapamicaaDoor.Vn (vread vsize num)
set_option linter.unusedVariables false
set_option linter.unusedSimpArgs false
theorem rnum_len {l x : List Int} {n : Int} (h : rnum l = some (n, x)) : x.length ≤ l.length := by
  unfold rnum at h
  split at h
  · injection h with h; injection h with _ h; rw [← h]; simp
  · cases h
theorem rbyt_len {l x d : List Int} {n : Int} (h : rbyt l n = some (d, x)) : x.length ≤ l.length := by
  unfold rbyt at h
  split at h
  · injection h with h; injection h with _ h; rw [← h]; simp
  · cases h
theorem rtrm_len {l x : List Int} {n : Int} (h : rtrm l = some (n, x)) : x.length ≤ l.length := by
  unfold rtrm at h
  split at h
  · injection h with h; injection h with _ h; rw [← h]; simp
  · cases h
theorem padF_len : ∀ l : List Int, (padF l).2.length ≤ l.length := by
  intro l
  induction l with
  | nil => simp [padF]
  | cons a t ih =>
    rw [padF]
    split
    · simp; omega
    · simp
theorem spanF_len {tp : Int} {l : List Int} {s : S103 × List Int} (h : spanF tp l = some s) : s.2.length ≤ l.length := by
  unfold spanF at h
  obtain ⟨⟨n, x⟩, hn, h⟩ := Option.bind_eq_some_iff.1 h
  simp only [] at h
  split at h
  · injection h with h; subst h; exact rnum_len hn
  · cases h
theorem gapF_len {tp : Int} {l : List Int} {s : Int × List Int} (h : gapF tp l = some s) : s.2.length ≤ l.length := by
  unfold gapF at h
  obtain ⟨⟨n, x⟩, hn, h⟩ := Option.bind_eq_some_iff.1 h
  simp only [] at h
  split at h
  · injection h with h; subst h; exact rnum_len hn
  · cases h
theorem ackF_rest : ∀ (d : Nat) (p : Int) (l : List Int) (s : List S103) (r : List Int), ackF d p l = some (s, r) → r.length ≤ l.length := by
  intro d
  induction d with
  | zero => intro p l s r h; injection h with h; injection h with _ h; subst h; exact Nat.le_refl _
  | succ d ih =>
    intro p l s r h
    rw [ackF] at h
    obtain ⟨g, hg, h⟩ := Option.bind_eq_some_iff.1 h
    obtain ⟨sp, hs, h⟩ := Option.bind_eq_some_iff.1 h
    obtain ⟨⟨t, r'⟩, ht, h⟩ := Option.map_eq_some_iff.1 h
    injection h with _ h
    subst h
    exact Nat.le_trans (ih _ _ _ _ ht) (Nat.le_trans (spanF_len hs) (gapF_len hg))
theorem ackR_rest {l r : List Int} {s : List S103} (h : ackR l = some (s, r)) : r.length ≤ l.length := by
  unfold ackR at h
  obtain ⟨⟨a, l1⟩, h1, h⟩ := Option.bind_eq_some_iff.1 h
  obtain ⟨⟨m, l2⟩, h2, h⟩ := Option.bind_eq_some_iff.1 h
  simp only [] at h
  split at h
  · obtain ⟨sp, hs, h⟩ := Option.bind_eq_some_iff.1 h
    obtain ⟨⟨t, r'⟩, ht, h⟩ := Option.map_eq_some_iff.1 h
    injection h with _ h
    subst h
    exact Nat.le_trans (ackF_rest _ _ _ _ _ ht) (Nat.le_trans (spanF_len hs) (Nat.le_trans (rnum_len h2) (rnum_len h1)))
  · cases h
theorem body_rest {k : Int} {l x : List Int} {f : S58} (h : body k l = some (f, x)) : x.length ≤ l.length := by
  unfold body at h
  split at h
  · injection h with h; injection h with _ h; subst h; exact padF_len l
  split at h
  · injection h with h; injection h with _ h; subst h; exact Nat.le_refl _
  split at h
  · injection h with h; injection h with _ h; subst h; exact Nat.le_refl _
  split at h
  · obtain ⟨⟨s, r⟩, ha, h⟩ := Option.map_eq_some_iff.1 h
    injection h with _ h; subst h
    exact ackR_rest ha
  split at h
  · obtain ⟨⟨a, l1⟩, h1, h⟩ := Option.bind_eq_some_iff.1 h
    obtain ⟨⟨n, l2⟩, h2, h⟩ := Option.bind_eq_some_iff.1 h
    obtain ⟨⟨d, l3⟩, h3, h⟩ := Option.map_eq_some_iff.1 h
    injection h with _ h; subst h
    exact Nat.le_trans (rbyt_len h3) (Nat.le_trans (rnum_len h2) (rnum_len h1))
  split at h
  · obtain ⟨⟨d, l1⟩, h1, h⟩ := Option.map_eq_some_iff.1 h
    injection h with _ h; subst h; exact rtrm_len h1
  split at h
  · obtain ⟨⟨a, l1⟩, h1, h⟩ := Option.bind_eq_some_iff.1 h
    obtain ⟨⟨d, l2⟩, h2, h⟩ := Option.map_eq_some_iff.1 h
    injection h with _ h; subst h
    exact Nat.le_trans (rtrm_len h2) (rnum_len h1)
  split at h
  · obtain ⟨⟨d, l1⟩, h1, h⟩ := Option.map_eq_some_iff.1 h
    injection h with _ h; subst h; exact rnum_len h1
  · cases h
theorem next_rest {k : Int} {t x : List Int} {f : S58} (h : next (k :: t) = some (f, x)) : x.length ≤ t.length := by
  rw [next] at h
  obtain ⟨⟨g, y⟩, hb, h⟩ := Option.bind_eq_some_iff.1 h
  simp only [] at h
  split at h
  · injection h with h; injection h with _ h; subst h; exact body_rest hb
  · cases h
theorem next_post {w0 w : World} {rb : Nat} {k : Int} {t : List Int} (h : Rdx w0 w rb (k :: t)) :
    Calls Tryd.prog 80 #[.pointer (some ⟨rb, 0, none⟩)] w (FrmP w0 w rb (next (k :: t))) := by
  by_cases h0 : k = 0
  · subst h0; exact next_padding h
  by_cases h1 : k = 1
  · subst h1; exact next_ping h
  by_cases h2 : k = 2
  · subst h2; exact next_ack h
  by_cases h6 : k = 6
  · subst h6; exact next_crypto h
  by_cases h7 : k = 7
  · subst h7; exact next_token h
  by_cases h8 : k = 8
  · subst h8; exact next_data h
  by_cases h28 : k = 28
  · subst h28; exact next_closed h
  by_cases h30 : k = 30
  · subst h30; exact next_done h
  exact next_else h ⟨h0, h1, h2, h6, h7, h8, h28, h30⟩
def fread (l : List Int) : List S58 × Int :=
  if 1200 < l.length then ([], 4) else match (if l = [] then none else frames (l.length + 1) l) with
    | none => ([], 3)
    | some L => (L, 0)
theorem boxed_only {p : Nat → Prop} {W W' : World} {B t : Nat} {u : Value} (h : Boxed W B t u) (ho : Only p W W') (hp : ¬ p B) : Boxed W' B t u := (ho.block B h.lt hp).trans h
set_option maxRecDepth 100000 in
theorem catch_idle (h0 h1 : Nat) (w : World) :
    CallsD Tryd.prog 78 #[.pointer (some ⟨h0, 0, none⟩), .pointer (some ⟨h1, 0, none⟩)] .returning w fun e u' w' => e = .returned (.tuple #[]) ∧ u' = .returning ∧ w' = w := by
  refine callsD_of_wpS Tryd.func78 rfl fun c₀ cs hu => ?_
  simp only [Tryd.ntmps78, List.size_toArray, List.length_cons, List.length_nil, Nat.reduceAdd, Nat.reduceSub, Array.replicate_succ, Array.replicate_zero, List.push_toArray, List.append_toArray, List.nil_append, List.cons_append]
  apply wpS_seq
  apply wpS_region
  simp [wpOpsS, go_sem, recoverD, hu, Exit.thenS]
  refine wpS_of_wp ?_
  go_wp2
  cases c₀
  simp_all [bodyPostS, results, Tryd.results78]
set_option maxHeartbeats 2000000 in
set_option maxRecDepth 100000 in
theorem catch_panicking {h0 h1 : Nat} {w : World} {v : Value} {e0 : Int} (hA : Boxed w h0 66 v) (hB : Boxed w h1 29 (.int .i64 e0)) (lay : h0 < h1) :
    CallsD Tryd.prog 78 #[.pointer (some ⟨h0, 0, none⟩), .pointer (some ⟨h1, 0, none⟩)] (.panicking wr) w fun en u' w' =>
      en = .returned (.tuple #[]) ∧ u' = .panicking [{ v := .iface 123 (.agg #[]), recovered := true }] ∧ Boxed w' h0 66 (.slice none 0 0) ∧ Boxed w' h1 29 (.int .i64 3) ∧ Only (fun k => k = h0 ∨ k = h1) w w' := by
  unfold wr
  refine callsD_of_wpS Tryd.func78 rfl fun c₀ cs hu => ?_
  simp only [Tryd.ntmps78, List.size_toArray, List.length_cons, List.length_nil, Nat.reduceAdd, Nat.reduceSub, Array.replicate_succ, Array.replicate_zero, List.push_toArray, List.append_toArray, List.nil_append, List.cons_append]
  apply wpS_seq
  apply wpS_region
  simp [wpOpsS, go_sem, recoverD, hu, Exit.thenS]
  refine wpS_of_wp ?_
  have hta : ∀ W : World, (Instr.typeAssert (.iface 123 (.agg #[])) 20 123 true).run Tryd.prog W = .ok (.tuple #[.agg #[], .bool true]) W := fun W => by kernel_rfl
  have HA := Aside0.mk hA
  have HB := Aside0.mk hB
  have HY := Aside0.mk lay
  clear hA hB lay
  go_upto_region 5 with (fail)
  have hA := HA.out.alloc (.cells #[] 123)
  have hB := HB.out.alloc (.cells #[] 123)
  have O1 := Aside0.mk ((Only.refl (fun k => k = h0 ∨ k = h1) w).alloc (.cells #[] 123))
  have c1 := hA.cell
  have c2 := hB.cell
  have g1 := hA.frozen
  have g2 := hB.frozen
  have hy := HY.out
  have n1 : ¬ (h0 = h1) := by omega
  have n2 : ¬ (h1 = h0) := by omega
  have HA1 := Aside0.mk hA
  have HB1 := Aside0.mk hB
  clear hA hB hta hy HA HB
  generalize w.alloc (.cells #[] 123) = wa at *
  go_wp2
  have hy := HY.out
  have oA := (Only.refl (fun k => k = h0) wa).setCell (ad := ⟨h0, 0, none⟩) rfl (.slice none 0 0)
  have oB := (Only.refl (fun k => k = h1) (wa.setCell ⟨h0, 0, none⟩ (.slice none 0 0))).setCell (ad := ⟨h1, 0, none⟩) rfl (.int .i64 3)
  exact ⟨rfl, _, rfl, _, results_none rfl _ _ _, rfl, rfl, boxed_only (HA1.out.set (.slice none 0 0)) oB (by omega), (boxed_only HB1.out oA (by omega)).set (.int .i64 3), O1.out.trans ((oA.imp (fun k _ q => Or.inl q)).trans (oB.imp (fun k _ q => Or.inr q)))⟩
theorem leaves_congr {P : Program} {fn : Func} {t t' : Array Value} (he : results fn t' = results fn t) {R : Ending → World → Prop} : ∀ (ds : List Deferred) (u : FrameMode) (w : World), Leaves P fn t' R ds u w → Leaves P fn t R ds u w := by
  intro ds
  induction ds with
  | nil =>
    intro u w h
    cases u with
    | returning => obtain ⟨v, hv, hr⟩ := h; exact ⟨v, by rw [← he]; exact hv, hr⟩
    | panicking c => exact h
    | run => exact h
  | cons d ds ih =>
    intro u w h
    obtain ⟨hu, fv, cap, f, args, h1, h2, h3⟩ := h
    refine ⟨hu, fv, cap, f, args, h1, h2, h3.mono ?_⟩
    intro e u' w' hh
    cases e with
    | returned v => exact ih _ _ hh
    | panicked c => exact ih _ _ hh
    | outgrown => exact hh
theorem res_put (t : Array Value) (i : Nat) (v : Value) (h2 : i ≠ 2) (h3 : i ≠ 3) : results Tryd.f54 (t.setIfInBounds i v) = results Tryd.f54 t := by
  have g2 : (t.setIfInBounds i v)[2]? = t[2]? := by rw [Array.getElem?_setIfInBounds, if_neg h2]
  have g3 : (t.setIfInBounds i v)[3]? = t[3]? := by rw [Array.getElem?_setIfInBounds, if_neg h3]
  simp [results, Tryd.results54, g2, g3]
theorem callP_ {P : Program} {ops : Array Oper} {Q : Exit → Act → World → Prop} {oi : Oper} {N : Option Tmp} {a : Act} {w : World} {K : Act → World → Prop} {f : FuncId} {fn : Func} {xs : Array Operand} {ts : Array TypeId} (hf : P.funcs[f]? = some fn) (hname : (fn.name == "runtime.NumGoroutine") = false) (hb : fn.body.isSome = true) (args : Array Value)
    (hw : Region.wanted oi (yielded ops a.tmps) = true) (hN : oi.dst = N) (hop : oi.op = .call { callee := .value (.func f), args := xs, argTypes := ts }) (hargs : xs.map a.eval = args)
    (h : Calls P f args w fun e w' => (∃ v, e = .returned v ∧ K (a.put N v) w') ∨ (∃ c, e = .panicked c ∧ Q (.panic c) a w')) : if Region.wanted oi (yielded ops a.tmps) = true then Oper.wp P oi a w K Q else K (a.put N undef) w := by
  have he := enters_ hf hname hb args w
  have hrun : (execOp a.eval oi).run P w = .ok (.enter f args) w := by
    unfold execOp
    simp [hop, resolve, Deferred.ofValue, invoke, Act.eval, hargs, he]
  rw [if_pos hw]
  subst hN
  unfold Oper.wp
  rw [hrun, Oper.upon_enter]
  refine h.mono fun e w'' hh => ?_
  rcases hh with ⟨v, rfl, hk⟩ | ⟨c, rfl, hk⟩
  · exact hk
  · exact hk
end Go.Proofs.YtbcleckapamicaaDoor.Fd
namespace Go.Proofs.YtbcleckapamicaaDoor.Fd
open Go Go.RowKit Go.Proofs.YtbcleckapamicaaDoorW.PrintWords Go.Proofs.YtbcleckapamicaaDoorW.PrintLast Go.Proofs.YtbcleckapamicaaDoorW.PrintMore
open Go.Proofs.YtbcleckapamicaaDoor.QFr (S58 S103 k58 k103 k58_mkM)
open Go.Proofs.YtbcleckapamicaaDoor.Onl (Only)
open Go.Proofs.YtbcleckapamicaaDoor.Vn (vread vsize num)
set_option linter.unusedVariables false
set_option linter.unusedSimpArgs false
theorem info58 : (Tryd.prog.info? 58).map (fun i => (i.zero, i.size, i.bytes)) = some (some (.agg #[.int .i64 0, .int .i64 0, .slice none 0 0, .int .i64 0, .slice none 0 0, .int .i64 0]), 6, 80) := by kernel_rfl
theorem S_only {α : Type} {d : Kd α} {e base : Nat} {p : Nat → Prop} {W W' : World} {v : Value} {xs : List α} (h : Kd.S d e W base (fun _ => True) v xs) (ho : Only p W W') (hp : ∀ k, p k → k < base) : Kd.S d e W' base (fun _ => True) v xs :=
  Kd.S_mono (Kd.S_move (Kd.S_bound h) (fun k hk => ho.block k hk.2.2.1 (fun q => by have := hp k q; have := hk.2.1; omega))) (fun _ _ => trivial)
theorem S_old {α : Type} {d : Kd α} {e base : Nat} {p : Nat → Prop} {W W' : World} {v : Value} {xs : List α} (h : Kd.S d e W base (fun _ => True) v xs) (ho : Only p W W') (hp : ∀ k, p k → k < base) : Kd.S d e W' base (fun k => True ∧ ¬ (W.heap.size ≤ k)) v xs :=
  Kd.S_mono (Kd.S_move (Kd.S_bound h) (fun k hk => ho.block k hk.2.2.1 (fun q => by have := hp k q; have := hk.2.1; omega))) (fun _ hk => ⟨trivial, by have := hk.2.2.1; omega⟩)
def ReadP (w : World) (r : List S58 × Int) (en : Ending) (w' : World) : Prop := ∃ v, en = .returned (.tuple #[v, .int .i64 r.2]) ∧ Kd.S k58 58 w' w.heap.size (fun _ => True) v r.1 ∧ Below w.heap.size w w'
set_option maxHeartbeats 1000000 in
set_option maxRecDepth 100000 in
theorem read_long (w : World) (A : Option Addr) (c : Nat) (l : List Int) (hl : 1200 < l.length) :
    Calls Tryd.prog 54 #[.slice A l.length c] w (ReadP w ([], 4)) := by
  have d0 : decide ((1200 : Int) < (l.length : Int)) = true := decide_eq_true (by omega)
  have d1 : decide (1200 < l.length) = true := decide_eq_true hl
  have HB := Aside0.mk (below_alloc (below_alloc (Below.refl w.heap.size w) (.cells #[.slice none 0 0] 66)) (.cells #[.int .i64 4] 29))
  clear hl
  go_enter_defers Tryd.func54, Tryd.ntmps54
  go_wp2
  have h1 := Boxed.new (w.alloc (.cells #[.slice none 0 0] 66)) 29 (.int .i64 4)
  rw [World.size_alloc] at h1
  have x1 := h1.cell
  have x0 := ((Boxed.new w 66 (.slice none 0 0)).alloc (.cells #[.int .i64 4] 29)).cell
  generalize (w.alloc (.cells #[.slice none 0 0] 66)).alloc (.cells #[.int .i64 4] 29) = w2 at *
  clear h1
  simp [bodyPostD, Leaves, settle, results, Tryd.results54, go_sem, x0, x1]
  exact ⟨_, rfl, Kd.S_nil _ _ _ _ _, HB.out⟩
def rw3 (w : World) (A : Option Addr) (n c : Nat) : World := ((w.alloc (.cells #[.slice none 0 0] 66)).alloc (.cells #[.int .i64 0] 29)).alloc (.cells #[.slice A n c] 127)
theorem rw3_facts (w : World) (A : Option Addr) (c : Nat) (l : List Int) (hC : Kd.C (Kd.int .u8) w A l.length l) (hc : l.length ≤ c) (hl : l.length ≤ 100000) (hB : ∀ x ∈ l, 0 ≤ x ∧ x ≤ 255) :
    Boxed (rw3 w A l.length c) w.heap.size 66 (.slice none 0 0) ∧ Boxed (rw3 w A l.length c) (w.heap.size + 1) 29 (.int .i64 0) ∧ Rd w (rw3 w A l.length c) (w.heap.size + 1 + 1) A c l ∧ (rw3 w A l.length c).heap.size = w.heap.size + 1 + 1 + 1 := by
  have s2 : ((w.alloc (.cells #[.slice none 0 0] 66)).alloc (.cells #[.int .i64 0] 29)).heap.size = w.heap.size + 1 + 1 := by simp only [World.size_alloc]
  have h1 := Boxed.new (w.alloc (.cells #[.slice none 0 0] 66)) 29 (.int .i64 0)
  rw [World.size_alloc] at h1
  refine ⟨((Boxed.new w 66 (.slice none 0 0)).alloc _).alloc _, h1.alloc _, ⟨?_, ?_, by omega, below_alloc (below_alloc (below_alloc (Below.refl _ _) _) _) _, hC, hc, hl, hB⟩, by unfold rw3; simp only [World.size_alloc]⟩
  · unfold rw3; rw [World.cell?_alloc_at _ _ _ _ s2.symm]; rfl
  · unfold rw3; exact World.frozen?_alloc_at _ _ _ _ s2.symm
set_option maxHeartbeats 2000000 in
set_option maxRecDepth 100000 in
theorem read_short (w : World) (A : Option Addr) (c : Nat) (l : List Int) (hC : Kd.C (Kd.int .u8) w A l.length l) (hc : l.length ≤ c) (hl : l.length ≤ 1200) (hB : ∀ x ∈ l, 0 ≤ x ∧ x ≤ 255) (hne : l ≠ []) :
    Calls Tryd.prog 54 #[.slice A l.length c] w (ReadP w (match frames (l.length + 1) l with | none => ([], 3) | some L => (L, 0))) := by
  have hmf : ∀ (fn : Fn) (first cap : Array Value) (w : World), (Instr.makeFunc fn first cap).run Tryd.prog w = .ok (.func fn first cap) w := fun _ _ _ _ => rfl
  have d0 : decide ((1200 : Int) < (l.length : Int)) = false := decide_eq_false (by omega)
  have d1 : decide (1200 < l.length) = false := decide_eq_false (by omega)
  have hpos : 0 < l.length := List.length_pos_iff.mpr hne
  have d2 : decide ((0 : Int) < (l.length : Int)) = true := decide_eq_true (by omega)
  have d3 : decide (0 < l.length) = true := decide_eq_true hpos
  have HC := Aside0.mk hC
  have HB := Aside0.mk hB
  have HL := Aside0.mk hl
  have HCc := Aside0.mk hc
  generalize hres : (match frames (l.length + 1) l with | none => (([] : List S58), (3 : Int)) | some L => (L, 0)) = res
  have HRES := Aside0.mk hres
  clear hC hB hl hc hne hpos hres
  go_enter_defers Tryd.func54, Tryd.ntmps54
  go_upto_region 5 with (fail)
  change Code.wp _ _ _ _ (rw3 w A l.length c)
  obtain ⟨hA, hE, hR, hsz⟩ := rw3_facts w A c l HC.out HCc.out (by have := HL.out; omega) HB.out
  generalize rw3 w A l.length c = w3 at *
  obtain ⟨h1, e1⟩ : ∃ h1, w.heap.size + 1 = h1 := ⟨_, rfl⟩
  rw [e1] at hE hR hsz ⊢
  obtain ⟨rb, e2⟩ : ∃ rb, h1 + 1 = rb := ⟨_, rfl⟩
  rw [e2] at hR hsz ⊢
  obtain ⟨h0, e0⟩ : ∃ h0, w.heap.size = h0 := ⟨_, rfl⟩
  rw [e0] at hA ⊢
  have LY := Aside0.mk (show w.heap.size = h0 ∧ h0 < h1 ∧ h1 < rb ∧ w3.heap.size = rb + 1 by omega)
  have BA := Aside0.mk hA
  have BE := Aside0.mk hE
  have RD := Aside0.mk hR
  clear e0 e1 e2 hA hE hR hsz hmf
  go_wp2_with (go_at_call 79; refine (need_ok _).mono ?_; rintro e1 w1 ⟨rfl, rfl⟩)
  go_loopg [16] l.length (fun gg v16 wr => ∃ (L : List S58) (x : List Int) (v : Value) (f : Nat), x.length ≤ gg ∧ x.length < f ∧ Aside0 (frames (l.length + 1) l = (frames f x).map (L ++ ·)) ∧ Aside0 (Rdx w wr rb x) ∧ Aside0 (Boxed wr h0 66 v) ∧ Aside0 (Boxed wr h1 29 (.int .i64 0)) ∧ Aside0 (Kd.S k58 58 wr (rb + 1) (fun _ => True) v L) ∧ Aside0 (L.length + x.length ≤ l.length) ∧ Aside0 (rb + 1 ≤ wr.heap.size))
  case atStart => exact ⟨[], l, _, l.length + 1, Nat.le_refl _, by omega, ⟨by simp⟩, ⟨_, _, RD.out⟩, BA, BE, ⟨Kd.S_nil _ _ _ _ _⟩, ⟨by simp⟩, ⟨by have := LY.out; omega⟩⟩
  case round =>
    obtain ⟨L, x, v, f, hg, hf, HP, HX, A0, E0, S0, HLn, HS⟩ := hrel
    clear BA BE RD
    obtain ⟨A', c', hx⟩ := HX.out
    have c0 := hx.c0
    have HH := Aside0.mk hx
    obtain ⟨Av, cv, ev⟩ := Kd.R_slice (Kd.S_R S0.out)
    obtain ⟨nv, hnv⟩ : ∃ nv, L.length = nv := ⟨_, rfl⟩
    rw [hnv] at ev
    have HNV := Aside0.mk hnv
    subst ev
    clear hx HX hnv
    obtain ⟨f, rfl⟩ : ∃ m, f = m + 1 := ⟨f - 1, by omega⟩
    cases x with
    | nil =>
      have c0 : wr.cell? ⟨rb, 0, none⟩ = some (.slice A' 0 c') := c0
      obtain rfl : (L, 0) = res := by
        have h1 := HP.out
        rw [frames, Option.map_some, List.append_nil] at h1
        have h2 := HRES.out
        rw [h1] at h2
        exact h2
      have z0 := A0.out.cell
      have z1 := E0.out.cell
      have y0 := A0.out.frozen
      have y1 := E0.out.frozen
      have hy := LY.out
      have n1 : ¬ (h0 = h1) := by omega
      have n2 : ¬ (h1 = h0) := by omega
      clear hg hf HP HLn hy HRES
      go_wp2
      have hy := LY.out
      have oA := (Only.refl (fun k => k = h0) wr).setCell (ad := ⟨h0, 0, none⟩) rfl (.slice Av nv cv)
      have oB := (Only.refl (fun k => k = h1) (wr.setCell ⟨h0, 0, none⟩ (.slice Av nv cv))).setCell (ad := ⟨h1, 0, none⟩) rfl (.int .i64 0)
      have x0 := (boxed_only (A0.out.set (.slice Av nv cv)) oB (by omega)).cell
      have x1 := ((boxed_only E0.out oA (by omega)).set (.int .i64 0)).cell
      have hS := Kd.S_lower (S_only (S_only S0.out oA (fun k q => by omega)) oB (fun k q => by omega)) (show w.heap.size ≤ rb + 1 by omega)
      have hbl := (HH.out.bl.trans (oA.below HH.out.bl.size (fun k q => by omega))).trans (oB.below (by have h1 := HH.out.bl.size; have h2 := oA.size; omega) (fun k q => by omega))
      have HSB := Aside0.mk (And.intro hS hbl)
      clear z0 z1 y0 y1 n1 n2 hy oA oB hS hbl c0
      generalize (wr.setCell ⟨h0, 0, none⟩ (.slice Av nv cv)).setCell ⟨h1, 0, none⟩ (.int .i64 0) = w8 at *
      refine leaves_cons (f := 78) (args := #[.pointer (some ⟨h0, 0, none⟩), .pointer (some ⟨h1, 0, none⟩)]) (by simp) (by simp [go_sem]) ?_
      refine (catch_idle h0 h1 _).mono ?_
      rintro en u' w9 ⟨rfl, rfl, rfl⟩
      simp [Leaves, settle, results, Tryd.results54, go_sem, x0, x1]
      exact ⟨_, rfl, HSB.out.1, HSB.out.2⟩
    | cons k t =>
      have q0 : decide ((0 : Int) < (((k :: t).length : Nat) : Int)) = true := decide_eq_true (Int.natCast_pos.2 (by simp))
      have q1 : decide (0 < (k :: t).length) = true := decide_eq_true (by simp)
      have HG := Aside0.mk hg
      have HF := Aside0.mk hf
      obtain ⟨m, hm⟩ : ∃ m, (k :: t).length = m := ⟨_, rfl⟩
      rw [hm] at q0 q1 c0
      have q2 : (0 : Int) < (m : Int) := by simpa using q0
      have HM := Aside0.mk hm
      clear hg hf hm
      go_upto_region 7 with (fail)
      have z0 := A0.out.cell
      have XD := Aside0.mk (show Rdx w wr.drew rb (k :: t) from ⟨_, _, HH.out.below (below_drew (Below.refl _ _))⟩)
      refine start_ (n := 6) (S := fun w' => w'.cell? ⟨h0, 0, none⟩ = some (.slice Av nv cv)) (ds := [5]) #[false, false, false, false, false, false] (by kernel_rfl) rfl rfl z0 (fun hHeld => ?_)
      refine take_ (i := 0) (N := some 22) (v := ?_) (a' := ?_) #[true, false, false, false, false, false] rfl rfl (by kernel_rfl) (fun c a w h => leaves_congr (res_put a.tmps 22 _ (by decide) (by decide)) _ _ _ h) (Or.inl ⟨by rfl, ?_⟩) hHeld ?_ ?_
      rotate_left
      · intro w' s0
        go_simp
        with_reducible rfl
      rotate_left
      · simp only [Act.put, List.setIfInBounds_toArray, List.set_cons_zero, List.set_cons_succ]
        rfl
      refine pure_ (i := 1) (N := some 23) (v := ?_) (a' := ?_) #[true, true, false, false, false, false] rfl rfl (by kernel_rfl) (fun c a w h => leaves_congr (res_put a.tmps 23 _ (by decide) (by decide)) _ _ _ h) (Or.inl ⟨by rfl, ?_⟩) ?_ ?_
      rotate_left
      · intro w'
        go_simp
        with_reducible rfl
      rotate_left
      · simp only [Act.put, List.setIfInBounds_toArray, List.set_cons_zero, List.set_cons_succ]
        rfl
      refine one_ (i := 2) (N := some 24) #[true, true, true, false, false, false] rfl rfl (by kernel_rfl) (by decide) (fun K hK => ?_)
      refine callP_ Tryd.func80 (by kernel_rfl) rfl #[.pointer (some ⟨rb, 0, none⟩)] (by rfl) rfl rfl (by simp only [List.map_toArray, List.map_cons, List.map_nil]; rfl) ?_
      refine (next_post XD.out).mono ?_
      rcases hn : next (k :: t) with _ | ⟨fr, y⟩
      · rintro e1 w5 ⟨ho, rfl⟩
        refine .inr ⟨_, rfl, ?_⟩
        obtain rfl : ([], 3) = res := by
          have h1 := HP.out
          rw [frames, hn] at h1
          have h2 := HRES.out
          rw [h1] at h2
          exact h2
        refine leaves_cons (f := 78) (args := #[.pointer (some ⟨h0, 0, none⟩), .pointer (some ⟨h1, 0, none⟩)]) (by simp) (by simp [go_sem]) ?_
        have hy := LY.out
        have oD : Only (fun k => k = rb) wr w5 := ((Only.refl (fun k => k = rb) wr).drew).trans ho
        have hbl := HH.out.bl.trans (oD.below HH.out.bl.size (fun k q => by omega))
        have a5 := boxed_only A0.out oD (by omega)
        have b5 := boxed_only E0.out oD (by omega)
        refine (catch_panicking a5 b5 (by omega)).mono ?_
        rintro en u' w9 ⟨rfl, rfl, a9, b9, o9⟩
        have x0 := a9.cell
        have x1 := b9.cell
        have hbl2 := hbl.trans (o9.below hbl.size (fun k q => by omega))
        simp [Leaves, settle, results, Tryd.results54, go_sem, x0, x1]
        exact ⟨_, rfl, Kd.S_nil _ _ _ _ _, hbl2⟩
      · rintro e1 w5 ⟨ho, ⟨v2, v4, rfl, hR2, hR4⟩, hx⟩
        have hy := LY.out
        have oD : Only (fun k => k = rb) wr w5 := ((Only.refl (fun k => k = rb) wr).drew).trans ho
        have hS5 := S_old S0.out oD (fun k q => by omega)
        have A5 := Aside0.mk (boxed_only A0.out oD (by omega))
        have E5 := Aside0.mk (boxed_only E0.out oD (by omega))
        have S5 := Aside0.mk hS5
        have hls := Kd.S_lt S0.out
        have hz5 : wr.heap.size ≤ w5.heap.size := oD.size
        have HZ5 := Aside0.mk (And.intro hz5 (show rb + 1 ≤ w5.heap.size by have := HS.out; omega))
        have R2 := Aside0.mk (show Kd.R k103 103 w5 (rb + 1) (fun j => wr.heap.size ≤ j) v2 fr.f2 from Kd.R_lower (Kd.R_mono (Kd.R_bound hR2) (fun j hj => hj.2.1)) (by have := HS.out; show rb + 1 ≤ wr.drew.heap.size; exact this))
        have R4 := Aside0.mk (show Kd.R (Kd.int .u8) 5 w5 (rb + 1) (fun j => wr.heap.size ≤ j) v4 fr.f4 from Kd.R_lower (Kd.R_mono (Kd.R_bound hR4) (fun j hj => hj.2.1)) (by have := HS.out; show rb + 1 ≤ wr.drew.heap.size; exact this))
        have HLS := Aside0.mk hls
        have X5 := Aside0.mk hx
        have HN := Aside0.mk hn
        have z5 := A5.out.cell
        clear hR2 hR4 hx ho oD hS5 hls hz5 hy hn
        refine .inl ⟨_, rfl, hK.out _ _ z5 (fun hHeld => ?_)⟩
        clear hK K
        refine norm_ (a' := ?_) ?_ ?_
        rotate_left
        · show Act.put _ (some 24) _ = _
          simp only [Act.put, List.setIfInBounds_toArray, List.set_cons_zero, List.set_cons_succ]
          rfl
        refine one_ (i := 3) (N := some 25) #[true, true, true, true, false, false] rfl rfl (by kernel_rfl) (by decide) (fun K hK => ?_)
        refine value_ (w1 := ?_) (v := ?_) (by rfl) rfl ?_ ?_
        rotate_left 2
        · go_simp
          constructor
          · rfl
          · rfl
        refine hK.out _ _ (pw_cell_below (below_alloc (Below.refl _ _) _) z5) (fun hHeld2 => ?_)
        clear hK K
        refine norm_ (a' := ?_) ?_ ?_
        rotate_left
        · show Act.put _ (some 25) _ = _
          simp only [Act.put, List.setIfInBounds_toArray, List.set_cons_zero, List.set_cons_succ]
          rfl
        refine one_ (i := 4) (N := some 26) #[true, true, true, true, true, false] rfl rfl (by kernel_rfl) (by decide) (fun K hK => ?_)
        refine Kd.S_append_step k58 (w0 := w5) (rb + 1) (by rfl) (.tmp 22) (.tmp 25) 66 58 (.agg #[.int .i64 0, .int .i64 0, .slice none 0 0, .int .i64 0, .slice none 0 0, .int .i64 0]) 80 rfl Tryd.underlying66 info58 rfl (by decide) (by omega) (.slice Av nv cv) L fr [.int .i64 fr.f0, .int .i64 fr.f1, v2, .int .i64 fr.f3, v4, .int .i64 fr.f5] (fun _ => True) (fun j => wr.heap.size ≤ j) rfl rfl ?aP ?aQ (fun _ _ => trivial) ?aO (Below.refl _ _) HZ5.out.2 ?aL ?_
        (case aP => exact k58_mkM _ _ _ fr R2.out R4.out)
        (case aQ => exact fun j hj => ⟨trivial, fun e => by have := HLS.out j e.symm; omega⟩)
        (case aO => exact S5.out)
        (case aL => have h1 := HLn.out; have h2 := HL.out; omega)
        intro v1 w6 hS6 hb6 hg6 hat6
        obtain ⟨A9, c9, e9⟩ := Kd.R_slice (Kd.S_R hS6)
        obtain ⟨n9, hn9⟩ : ∃ n9, (L ++ [fr]).length = n9 := ⟨_, rfl⟩
        rw [hn9] at e9
        clear hn9
        subst e9
        have hy := LY.out
        have o6 : Only (fun k => rb + 1 ≤ k) w5 w6 := (Only.refl _ w5).grown hg6 (fun k e => .inl (Kd.S_base S0.out k e))
        have A6 := Aside0.mk (boxed_only A5.out o6 (by omega))
        have E6 := Aside0.mk (boxed_only E5.out o6 (by omega))
        have S6 := Aside0.mk hS6
        have O6 := Aside0.mk o6
        have z6 := A6.out.cell
        have y6 := A6.out.frozen
        clear hS6 hb6 hg6 hat6 o6 hy A5 E5
        refine hK.out _ _ z6 (fun hHeld3 => ?_)
        clear hK K
        refine norm_ (a' := ?_) ?_ ?_
        rotate_left
        · show Act.put _ (some 26) _ = _
          simp only [Act.put, List.setIfInBounds_toArray, List.set_cons_zero, List.set_cons_succ]
          rfl
        refine last_ (i := 5) (N := none) #[true, true, true, true, true, true] rfl rfl (by kernel_rfl) (by decide) (fun K hK => ?_)
        refine skip_ (w1 := ?_) (by rfl) rfl ?_ ?_
        rotate_left
        · go_simp
          rfl
        refine hK.out _ _ ?_
        clear hK K
        refine done_ (by kernel_rfl) ?_
        clear z0 z5 z6 y6 hHeld hHeld2 hHeld3
        go_wp2
        go_roundg y.length
        case measure => have h1 := next_rest HN.out; have h2 := HG.out; simp at h2; omega
        case rel =>
          have hy := LY.out
          have o7 := (Only.refl (fun k => k = h0) w6).setCell (ad := ⟨h0, 0, none⟩) rfl (.slice A9 n9 c9)
          have hrest := next_rest HN.out
          refine ⟨L ++ [fr], y, .slice A9 n9 c9, f, Nat.le_refl _, by have := HF.out; simp at this; omega, ⟨?_⟩, ⟨?_⟩, ⟨A6.out.set _⟩, ⟨boxed_only E6.out o7 (by omega)⟩, ⟨S_only S6.out o7 (fun k q => by omega)⟩, ⟨by have := HLn.out; simp at this ⊢; omega⟩, ⟨Nat.le_trans HZ5.out.2 (Nat.le_trans O6.out.size o7.size)⟩⟩
          · have h1 := HP.out
            rw [frames, HN.out, Option.bind_some, Option.map_map] at h1
            rw [h1]
            congr 1
            funext z
            simp
          · obtain ⟨A5, c5, h5⟩ := X5.out
            exact ⟨A5, c5, (h5.only O6.out (fun q => by omega) (fun k q => by omega)).only o7 (fun q => by omega) (fun k q => by omega)⟩
set_option maxHeartbeats 1000000 in
set_option maxRecDepth 100000 in
theorem read_nil (w : World) (A : Option Addr) (c : Nat) :
    Calls Tryd.prog 54 #[.slice A 0 c] w (ReadP w ([], 3)) := by
  have hmf : ∀ (fn : Fn) (first cap : Array Value) (w : World), (Instr.makeFunc fn first cap).run Tryd.prog w = .ok (.func fn first cap) w := fun _ _ _ _ => rfl
  have hf := rw3_facts w none 0 [] (Kd.C_nil _ _) (Nat.le_refl _) (by simp) (fun x hx => by simp at hx)
  go_enter_defers Tryd.func54, Tryd.ntmps54
  go_upto_region 5 with (fail)
  obtain ⟨w3, hw3⟩ : ∃ w3, ((w.alloc (.cells #[.slice none 0 0] 66)).alloc (.cells #[.int .i64 0] 29)).alloc (.cells #[.slice A 0 c] 127) = w3 := ⟨_, rfl⟩
  rw [hw3]
  have hA : Boxed w3 w.heap.size 66 (.slice none 0 0) := by rw [← hw3]; exact ((Boxed.new w 66 (.slice none 0 0)).alloc _).alloc _
  have hE : Boxed w3 (w.heap.size + 1) 29 (.int .i64 0) := by
    rw [← hw3]
    have h1 := Boxed.new (w.alloc (.cells #[.slice none 0 0] 66)) 29 (.int .i64 0)
    rw [World.size_alloc] at h1
    exact h1.alloc _
  have hbl : Below w.heap.size w w3 := by rw [← hw3]; exact below_alloc (below_alloc (below_alloc (Below.refl _ _) _) _) _
  have BA := Aside0.mk hA
  have BE := Aside0.mk hE
  have BL := Aside0.mk hbl
  clear hw3 hA hE hbl hf hmf
  go_wp2_with (go_at_call 79; refine (need_bad _).mono ?_; rintro e1 w1 ⟨rfl, rfl⟩)
  refine leaves_cons (f := 78) (args := #[.pointer (some ⟨w.heap.size, 0, none⟩), .pointer (some ⟨w.heap.size + 1, 0, none⟩)]) (by simp) (by simp [go_sem]) ?_
  refine (catch_panicking BA.out BE.out (by omega)).mono ?_
  rintro en u' w9 ⟨rfl, rfl, a9, b9, o9⟩
  have x0 := a9.cell
  have x1 := b9.cell
  have hbl2 := BL.out.trans (o9.below BL.out.size (fun k q => by omega))
  simp [Leaves, settle, results, Tryd.results54, go_sem, x0, x1]
  exact ⟨_, rfl, Kd.S_nil _ _ _ _ _, hbl2⟩
def frame_Read.f (l0 : List Int) : Option (List S58 × Int) := if l0.length ≤ 100000 ∧ ∀ x ∈ l0, 0 ≤ x ∧ x ≤ 255 then some (fread l0) else none
theorem frame_Read.calls (A0 : Option Addr) (c0 : Nat) (l0 : List Int) (r1 : List S58) (r2 : Int) (w : World) (hr0 : Kd.C (Kd.int .u8) w A0 l0.length l0) (hc0 : l0.length ≤ c0) (h : frame_Read.f l0 = some (r1, r2)) :
    Calls Tryd.prog 54 #[.slice A0 l0.length c0] w fun e w' => ∃ v0_ : Value, e = .returned (.tuple #[v0_, .int .i64 r2]) ∧ Kd.S k58 58 w' w.heap.size (fun _ => True) v0_ r1 ∧ Below w.heap.size w w' := by
  unfold frame_Read.f at h
  split at h
  · rename_i hh
    injection h with h
    have e1 : r1 = (fread l0).1 := by rw [h]
    have e2 : r2 = (fread l0).2 := by rw [h]
    subst e1 e2
    unfold fread
    by_cases h1 : 1200 < l0.length
    · rw [if_pos h1]; exact read_long w A0 c0 l0 h1
    rw [if_neg h1]
    by_cases h2 : l0 = []
    · subst h2; exact read_nil w A0 c0
    rw [if_neg h2]
    exact read_short w A0 c0 l0 hr0 hc0 (by omega) hh.2 h2
  · cases h
end Go.Proofs.YtbcleckapamicaaDoor.Fd
namespace Go.Proofs.YtbcleckapamicaaDoor.QFd
open Go.Proofs.YtbcleckapamicaaDoor.QFr (S102 S103 at_T102 at_T103 k102 k103 rd_T102 rd_T103)
open Go.RowKit Go.Proofs.YtbcleckapamicaaDoorW.PrintWords Go.Proofs.YtbcleckapamicaaDoorW.PrintLast Go.Proofs.YtbcleckapamicaaDoorW.PrintMore
attribute [local go_sem] max2_int min2_int max_two min_two max_three min_three max_four min_four
set_option linter.unusedVariables false
set_option linter.unusedSimpArgs false
open Go.Proofs.YtbcleckapamicaaDoor.QFr (shibbolethlaw06_same.f shibbolethlaw06_same.calls shibbolethlaw06_same.mono)
set_option hygiene false
local macro "ot190_" : term => `(.cells #[.int .i64 a0_0, .int .i64 a0_1, .slice A0_2 l0_2.length c0_2, .int .i64 a0_3, .slice A0_4 l0_4.length c0_4, .int .i64 a0_5] 58 (0, 0))
local macro "pt190_" : term => `((shibbolethlaw06_told.j0 k true a0_0 a0_1 l0_2 a0_3 l0_4 a0_5 a1_0 a1_1 l1_2 a1_3 l1_4 a1_5))
local macro "pt191_" : term => `((by first | (with_reducible assumption) | assumption))
local macro "pt192_" : term => `((shibbolethlaw06_told.j0 k ((l0_2.length : Int) != (l1_2.length : Int)) a0_0 a0_1 l0_2 a0_3 l0_4 a0_5 a1_0 a1_1 l1_2 a1_3 l1_4 a1_5))
local macro "pt193_" : term => `((by rw [hg]; exact (below_size (by qb1_ GE101)) : w.heap.size ≤ gb102))
local macro "pt194_" : term => `((by first | rfl | (simp; done) | (simp [*]; done)))
local macro "pt195_" : term => `((by rw [hg]; exact (below_size (by qc0_)) : w.heap.size ≤ gb101))
local macro "pt196_" : term => `((by rw [hg]; exact Nat.ne_of_lt (blk_lt (g := gb101) (o := (ot190_)) (by qk_; exact BK101.out)) : gb101 ≠ gb102))
local macro "pt197_" : term => `((by rw [hg]; exact Nat.ne_of_gt (blk_lt (g := gb101) (o := (ot190_)) (by qk_; exact BK101.out)) : gb102 ≠ gb101))
local macro "pt198_" : term => `((shibbolethlaw06_same.calls k _ _ l0_4 _ _ l1_4 false _ ?side1 ?side2 ?side3 ?side4 A10.out))
local macro "pt199_" : term => `((shibbolethlaw06_same.calls k _ _ l0_4 _ _ l1_4 true _ ?side1 ?side2 ?side3 ?side4 A10.out))
local macro "lt190_" : tactic => `(tactic| (exact ⟨by first | rfl | (simp [errW_none, errW_some] <;> rfl) | (simp [*, errW_none, errW_some] <;> rfl), by qb2_ GE101 GE102⟩))
local macro "lt191_" : tactic => `(tactic| (obtain ⟨ad104, e104, hx104_0, hx104_1⟩ := at_T103 HR0_2.out x5_2 p104 q104))
local macro "lt192_" : tactic => `(tactic| (replace hx104_0 := (HB.out.cell (World.block_lt_of_cell? w _ hx104_0)).trans hx104_0))
local macro "lt193_" : tactic => `(tactic| (replace hx104_1 := (HB.out.cell (World.block_lt_of_cell? w _ hx104_1)).trans hx104_1))
local macro "lt194_" : tactic => `(tactic| (obtain ⟨ad105, e105, hx105_0, hx105_1⟩ := at_T102 HR1_2.out x5_2 p105 q105))
local macro "lt195_" : tactic => `(tactic| (replace hx105_0 := (HB.out.cell (World.block_lt_of_cell? w _ hx105_0)).trans hx105_0))
local macro "lt196_" : tactic => `(tactic| (replace hx105_1 := (HB.out.cell (World.block_lt_of_cell? w _ hx105_1)).trans hx105_1))
set_option hygiene true
mutual
def shibbolethlaw06_told.j0 : Nat → Bool → Int → Int → List (S103) → Int → List Int → Int → Int → Int → List (S102) → Int → List Int → Int → Option (Bool)
 | 0, _, _, _, _, _, _, _, _, _, _, _, _, _ => none
 | k + 1, x48, x102000, x102001, x102002, x102003, x102004, x102005, x103000, x103001, x103002, x103003, x103004, x103005 => if x48 = true then (some false) else (shibbolethlaw06_told.l0 k 0 x102000 x102001 x102002 x102003 x102004 x102005 x103000 x103001 x103002 x103003 x103004 x103005)
def shibbolethlaw06_told.l0 : Nat → Int → Int → Int → List (S103) → Int → List Int → Int → Int → Int → List (S102) → Int → List Int → Int → Option (Bool)
 | 0, _, _, _, _, _, _, _, _, _, _, _, _, _ => none
 | k + 1, x5, x102000, x102001, x102002, x102003, x102004, x102005, x103000, x103001, x103002, x103003, x103004, x103005 => if x5 < (x103002.length : Int) then (if 0 ≤ x5 then (if x5 < (x102002.length : Int) then (if ((rd_T103 x102002 x5).f0) = ((rd_T102 x103002 x5).f0) then (if ((rd_T103 x102002 x5).f1) = ((rd_T102 x103002 x5).f1) then (shibbolethlaw06_told.l0 k (wrap64 (x5 + 1)) x102000 x102001 x102002 x102003 x102004 x102005 x103000 x103001 x103002 x103003 x103004 x103005) else (some false)) else (some false)) else (none)) else (none)) else (some true)
end
def shibbolethlaw06_told.f (k : Nat) (a0_0 : Int) (a0_1 : Int) (l0_2 : List (S103)) (a0_3 : Int) (l0_4 : List Int) (a0_5 : Int) (a1_0 : Int) (a1_1 : Int) (l1_2 : List (S102)) (a1_3 : Int) (l1_4 : List Int) (a1_5 : Int) : Option (Bool) := if a0_0 = a1_0 then (if a0_1 = a1_1 then (if a0_3 = a1_3 then (if a0_5 = a1_5 then ((shibbolethlaw06_same.f k l0_4 l1_4).bind fun t103 => (if t103 = true then (pt192_) else (pt190_))) else (pt190_)) else (pt190_)) else (pt190_)) else (pt190_)
theorem shibbolethlaw06_told.mono_l : ∀ k, (∀ y0 y1 y2 y3 y4 y5 y6 y7 y8 y9 y10 y11 y12, LeO (shibbolethlaw06_told.j0 k y0 y1 y2 y3 y4 y5 y6 y7 y8 y9 y10 y11 y12) (shibbolethlaw06_told.j0 (k + 1) y0 y1 y2 y3 y4 y5 y6 y7 y8 y9 y10 y11 y12)) ∧ (∀ y0 y1 y2 y3 y4 y5 y6 y7 y8 y9 y10 y11 y12, LeO (shibbolethlaw06_told.l0 k y0 y1 y2 y3 y4 y5 y6 y7 y8 y9 y10 y11 y12) (shibbolethlaw06_told.l0 (k + 1) y0 y1 y2 y3 y4 y5 y6 y7 y8 y9 y10 y11 y12))
 | 0 => ⟨fun _ _ _ _ _ _ _ _ _ _ _ _ _ r h => by simp [shibbolethlaw06_told.j0] at h, fun _ _ _ _ _ _ _ _ _ _ _ _ _ r h => by simp [shibbolethlaw06_told.l0] at h⟩
 | k + 1 => by
  obtain ⟨ih0, ih1⟩ := shibbolethlaw06_told.mono_l k
  refine ⟨?_, ?_⟩
  ·intro y0 y1 y2 y3 y4 y5 y6 y7 y8 y9 y10 y11 y12
   unfold shibbolethlaw06_told.j0
   repeat' first
   | (with_reducible exact ih0 _ _ _ _ _ _ _ _ _ _ _ _ _)
   | (with_reducible exact ih1 _ _ _ _ _ _ _ _ _ _ _ _ _)
   | (with_reducible exact shibbolethlaw06_same.mono _ _ _)
   | (with_reducible exact LeO.refl _)
   | (with_reducible exact LeO.none _)
   | (with_reducible refine LeO.ite ?_ ?_)
   | (with_reducible refine LeO.bind ?_ (fun _ => ?_))
   | exact ih0 _ _ _ _ _ _ _ _ _ _ _ _ _
   | exact ih1 _ _ _ _ _ _ _ _ _ _ _ _ _
   | exact shibbolethlaw06_same.mono _ _ _
   | exact LeO.none _
   | refine LeO.ite ?_ ?_
   | refine LeO.bind ?_ (fun _ => ?_)
  ·intro y0 y1 y2 y3 y4 y5 y6 y7 y8 y9 y10 y11 y12
   unfold shibbolethlaw06_told.l0
   repeat' first
   | (with_reducible exact ih0 _ _ _ _ _ _ _ _ _ _ _ _ _)
   | (with_reducible exact ih1 _ _ _ _ _ _ _ _ _ _ _ _ _)
   | (with_reducible exact shibbolethlaw06_same.mono _ _ _)
   | (with_reducible exact LeO.refl _)
   | (with_reducible exact LeO.none _)
   | (with_reducible refine LeO.ite ?_ ?_)
   | (with_reducible refine LeO.bind ?_ (fun _ => ?_))
   | exact ih0 _ _ _ _ _ _ _ _ _ _ _ _ _
   | exact ih1 _ _ _ _ _ _ _ _ _ _ _ _ _
   | exact shibbolethlaw06_same.mono _ _ _
   | exact LeO.none _
   | refine LeO.ite ?_ ?_
   | refine LeO.bind ?_ (fun _ => ?_)
theorem shibbolethlaw06_told.mono : ∀ a0 a1 a2 a3 a4 a5 a6 a7 a8 a9 a10 a11 k, LeO (shibbolethlaw06_told.f k a0 a1 a2 a3 a4 a5 a6 a7 a8 a9 a10 a11) (shibbolethlaw06_told.f (k + 1) a0 a1 a2 a3 a4 a5 a6 a7 a8 a9 a10 a11) := by
 intro a0 a1 a2 a3 a4 a5 a6 a7 a8 a9 a10 a11 k
 obtain ⟨ih0, ih1⟩ := shibbolethlaw06_told.mono_l k
 unfold shibbolethlaw06_told.f
 repeat' first
   | (with_reducible exact ih0 _ _ _ _ _ _ _ _ _ _ _ _ _)
   | (with_reducible exact ih1 _ _ _ _ _ _ _ _ _ _ _ _ _)
   | (with_reducible exact shibbolethlaw06_same.mono _ _ _)
   | (with_reducible exact LeO.refl _)
   | (with_reducible exact LeO.none _)
   | (with_reducible refine LeO.ite ?_ ?_)
   | (with_reducible refine LeO.bind ?_ (fun _ => ?_))
   | exact ih0 _ _ _ _ _ _ _ _ _ _ _ _ _
   | exact ih1 _ _ _ _ _ _ _ _ _ _ _ _ _
   | exact shibbolethlaw06_same.mono _ _ _
   | exact LeO.none _
   | refine LeO.ite ?_ ?_
   | refine LeO.bind ?_ (fun _ => ?_)
set_option maxHeartbeats 8000000 in
set_option maxRecDepth 100000 in
theorem shibbolethlaw06_told.calls (k : Nat) (a0_0 : Int) (a0_1 : Int) (A0_2 : Option Addr) (c0_2 : Nat) (l0_2 : List (S103)) (a0_3 : Int) (A0_4 : Option Addr) (c0_4 : Nat) (l0_4 : List Int) (a0_5 : Int) (a1_0 : Int) (a1_1 : Int) (A1_2 : Option Addr) (c1_2 : Nat) (l1_2 : List (S102)) (a1_3 : Int) (A1_4 : Option Addr) (c1_4 : Nat) (l1_4 : List Int) (a1_5 : Int) (r : Bool) (w : World) (hr0_2 : Kd.C k103 w A0_2 l0_2.length l0_2) (hc0_2 : l0_2.length ≤ c0_2) (hr0_4 : Kd.C (Kd.int .u8) w A0_4 l0_4.length l0_4) (hc0_4 : l0_4.length ≤ c0_4) (hr1_2 : Kd.C k102 w A1_2 l1_2.length l1_2) (hc1_2 : l1_2.length ≤ c1_2) (hr1_4 : Kd.C (Kd.int .u8) w A1_4 l1_4.length l1_4) (hc1_4 : l1_4.length ≤ c1_4) (h : shibbolethlaw06_told.f k a0_0 a0_1 l0_2 a0_3 l0_4 a0_5 a1_0 a1_1 l1_2 a1_3 l1_4 a1_5 = some r) :
  Calls Tryd.prog 56 #[.agg #[.int .i64 a0_0, .int .i64 a0_1, .slice A0_2 l0_2.length c0_2, .int .i64 a0_3, .slice A0_4 l0_4.length c0_4, .int .i64 a0_5], .agg #[.int .i64 a1_0, .int .i64 a1_1, .slice A1_2 l1_2.length c1_2, .int .i64 a1_3, .slice A1_4 l1_4.length c1_4, .int .i64 a1_5]] w fun e w' => e = .returned (.bool r) ∧ Below w.heap.size w w' := by
 have hu58 := Tryd.underlying58
 have hu62 := Tryd.underlying62
 have HR0_2 := Aside0.mk hr0_2
 have HC0_2 := Aside0.mk hc0_2
 clear hr0_2 hc0_2
 have HR0_4 := Aside0.mk hr0_4
 have HC0_4 := Aside0.mk hc0_4
 clear hr0_4 hc0_4
 have HR1_2 := Aside0.mk hr1_2
 have HC1_2 := Aside0.mk hc1_2
 clear hr1_2 hc1_2
 have HR1_4 := Aside0.mk hr1_4
 have HC1_4 := Aside0.mk hc1_4
 clear hr1_4 hc1_4
 have HB := Aside0.mk (Below.refl w.heap.size w)
 have H : (if a0_0 = a1_0 then (if a0_1 = a1_1 then (if a0_3 = a1_3 then (if a0_5 = a1_5 then ((shibbolethlaw06_same.f k l0_4 l1_4).bind fun t103 => (if t103 = true then (pt192_) else (pt190_))) else (pt190_)) else (pt190_)) else (pt190_)) else (pt190_)) = some r := h
 clear h
 have HC3 := Aside0.mk H
 clear H
 go_enter Tryd.func56, Tryd.ntmps56
 go_upto_region 1 with (first | ((with_reducible refine gate_dst (N := 2) rfl ?_); (try (refine gate_guard (by rfl) ?_; dsimp only)); refine box_event ?hg (N := 2) ?hd (cs := #[.int .i64 a0_0, .int .i64 a0_1, .slice A0_2 l0_2.length c0_2, .int .i64 a0_3, .slice A0_4 l0_4.length c0_4, .int .i64 a0_5]) (t := 58) ?hr ?_; (case hd => rfl); (case hg => rfl); (case hr => first | (go_simp; done) | (go_simp; rfl)); intro gb101 hg w4 hbox hb; have n0_ := Aside0.mk (below_step (by qc0_) hb); have n1_ := Aside0.mk (hbox); have n2_ := Aside0.mk ((pt195_)); have n3_ := Aside0.mk ((pt195_)); clear HB; have HB := n0_; have BK101 := n1_; have GW101 := n2_; have GE101 := n3_; clear n0_ n1_ n2_ n3_; clear hb hbox hg) | ((with_reducible refine gate_dst (N := 3) rfl ?_); (try (refine gate_guard (by rfl) ?_; dsimp only)); refine box_event ?hg (N := 3) ?hd (cs := #[.int .i64 a1_0, .int .i64 a1_1, .slice A1_2 l1_2.length c1_2, .int .i64 a1_3, .slice A1_4 l1_4.length c1_4, .int .i64 a1_5]) (t := 62) ?hr ?_; (case hd => rfl); (case hg => rfl); (case hr => first | (go_simp; done) | (go_simp; rfl)); intro gb102 hg w5 hbox hb; have n0_ := Aside0.mk (blk_below (g := gb101) (o := (ot190_)) (by qk_; exact BK101.out) hb); have n1_ := Aside0.mk (below_step (by qb1_ GE101) hb); have n2_ := Aside0.mk (hbox); have n3_ := Aside0.mk ((pt193_)); have n4_ := Aside0.mk ((pt193_)); have n5_ := Aside0.mk ((pt196_)); have n6_ := Aside0.mk ((pt197_)); clear BK101; clear HB; have BK101 := n0_; have HB := n1_; have BK102 := n2_; have GW102 := n3_; have GE102 := n4_; have NB101_102 := n5_; have NB102_101 := n6_; clear n0_ n1_ n2_ n3_ n4_ n5_ n6_; clear hb hbox hg))
 repeat (go_quiet (first | ((with_reducible refine gate_dst (N := 2) rfl ?_); (try (refine gate_guard (by rfl) ?_; dsimp only)); refine box_event ?hg (N := 2) ?hd (cs := #[.int .i64 a0_0, .int .i64 a0_1, .slice A0_2 l0_2.length c0_2, .int .i64 a0_3, .slice A0_4 l0_4.length c0_4, .int .i64 a0_5]) (t := 58) ?hr ?_; (case hd => rfl); (case hg => rfl); (case hr => first | (go_simp; done) | (go_simp; rfl)); intro gb101 hg w4 hbox hb; have n0_ := Aside0.mk (below_step (by qc0_) hb); have n1_ := Aside0.mk (hbox); have n2_ := Aside0.mk ((pt195_)); have n3_ := Aside0.mk ((pt195_)); clear HB; have HB := n0_; have BK101 := n1_; have GW101 := n2_; have GE101 := n3_; clear n0_ n1_ n2_ n3_; clear hb hbox hg) | ((with_reducible refine gate_dst (N := 3) rfl ?_); (try (refine gate_guard (by rfl) ?_; dsimp only)); refine box_event ?hg (N := 3) ?hd (cs := #[.int .i64 a1_0, .int .i64 a1_1, .slice A1_2 l1_2.length c1_2, .int .i64 a1_3, .slice A1_4 l1_4.length c1_4, .int .i64 a1_5]) (t := 62) ?hr ?_; (case hd => rfl); (case hg => rfl); (case hr => first | (go_simp; done) | (go_simp; rfl)); intro gb102 hg w5 hbox hb; have n0_ := Aside0.mk (blk_below (g := gb101) (o := (ot190_)) (by qk_; exact BK101.out) hb); have n1_ := Aside0.mk (below_step (by qb1_ GE101) hb); have n2_ := Aside0.mk (hbox); have n3_ := Aside0.mk ((pt193_)); have n4_ := Aside0.mk ((pt193_)); have n5_ := Aside0.mk ((pt196_)); have n6_ := Aside0.mk ((pt197_)); clear BK101; clear HB; have BK101 := n0_; have HB := n1_; have BK102 := n2_; have GW102 := n3_; have GE102 := n4_; have NB101_102 := n5_; have NB102_101 := n6_; clear n0_ n1_ n2_ n3_ n4_ n5_ n6_; clear hb hbox hg)); go_upto_region 1 with (first | ((with_reducible refine gate_dst (N := 2) rfl ?_); (try (refine gate_guard (by rfl) ?_; dsimp only)); refine box_event ?hg (N := 2) ?hd (cs := #[.int .i64 a0_0, .int .i64 a0_1, .slice A0_2 l0_2.length c0_2, .int .i64 a0_3, .slice A0_4 l0_4.length c0_4, .int .i64 a0_5]) (t := 58) ?hr ?_; (case hd => rfl); (case hg => rfl); (case hr => first | (go_simp; done) | (go_simp; rfl)); intro gb101 hg w4 hbox hb; have n0_ := Aside0.mk (below_step (by qc0_) hb); have n1_ := Aside0.mk (hbox); have n2_ := Aside0.mk ((pt195_)); have n3_ := Aside0.mk ((pt195_)); clear HB; have HB := n0_; have BK101 := n1_; have GW101 := n2_; have GE101 := n3_; clear n0_ n1_ n2_ n3_; clear hb hbox hg) | ((with_reducible refine gate_dst (N := 3) rfl ?_); (try (refine gate_guard (by rfl) ?_; dsimp only)); refine box_event ?hg (N := 3) ?hd (cs := #[.int .i64 a1_0, .int .i64 a1_1, .slice A1_2 l1_2.length c1_2, .int .i64 a1_3, .slice A1_4 l1_4.length c1_4, .int .i64 a1_5]) (t := 62) ?hr ?_; (case hd => rfl); (case hg => rfl); (case hr => first | (go_simp; done) | (go_simp; rfl)); intro gb102 hg w5 hbox hb; have n0_ := Aside0.mk (blk_below (g := gb101) (o := (ot190_)) (by qk_; exact BK101.out) hb); have n1_ := Aside0.mk (below_step (by qb1_ GE101) hb); have n2_ := Aside0.mk (hbox); have n3_ := Aside0.mk ((pt193_)); have n4_ := Aside0.mk ((pt193_)); have n5_ := Aside0.mk ((pt196_)); have n6_ := Aside0.mk ((pt197_)); clear BK101; clear HB; have BK101 := n0_; have HB := n1_; have BK102 := n2_; have GW102 := n3_; have GE102 := n4_; have NB101_102 := n5_; have NB102_101 := n6_; clear n0_ n1_ n2_ n3_ n4_ n5_ n6_; clear hb hbox hg)))
 (try simp only [Act.put, List.setIfInBounds_toArray, List.set_cons_zero, List.set_cons_succ])
 go_cut [48] (fun v48 wc => ∃ (kq : Nat) (x48_2 : Bool), v48 = .bool x48_2 ∧ Aside0 (shibbolethlaw06_told.j0 kq x48_2 a0_0 a0_1 l0_2 a0_3 l0_4 a0_5 a1_0 a1_1 l1_2 a1_3 l1_4 a1_5 = some r) ∧ Aside0 (kq ≤ k) ∧ Aside0 (wc.heap[gb101]? = some (.cells #[.int .i64 a0_0, .int .i64 a0_1, (.slice A0_2 l0_2.length c0_2), .int .i64 a0_3, (.slice A0_4 l0_4.length c0_4), .int .i64 a0_5] 58 (0, 0))) ∧ Aside0 (wc.heap[gb102]? = some (.cells #[.int .i64 a1_0, .int .i64 a1_1, (.slice A1_2 l1_2.length c1_2), .int .i64 a1_3, (.slice A1_4 l1_4.length c1_4), .int .i64 a1_5] 62 (0, 0))) ∧ Aside0 (Below w.heap.size w wc))
 case first =>
  have H := HC3.out
  clear HC3
  by_cases c6 : a0_0 = a1_0
  ·rw [if_pos c6] at H
   have c6b0 : (a0_0 == a1_0) = true := beq_iff_eq.mpr c6
   have c6b1 : (a0_0 != a1_0) = false := bne_eq_false_iff_eq.mpr c6
   clear c6
   (first | rw [c6b0] | (simp only [i64_w, i32_w]; rw [c6b0]) | skip)
   by_cases c7 : a0_1 = a1_1
   ·rw [if_pos c7] at H
    have c7b0 : (a0_1 == a1_1) = true := beq_iff_eq.mpr c7
    have c7b1 : (a0_1 != a1_1) = false := bne_eq_false_iff_eq.mpr c7
    clear c7
    by_cases c8 : a0_3 = a1_3
    ·rw [if_pos c8] at H
     have c8b0 : (a0_3 == a1_3) = true := beq_iff_eq.mpr c8
     have c8b1 : (a0_3 != a1_3) = false := bne_eq_false_iff_eq.mpr c8
     clear c8
     by_cases c9 : a0_5 = a1_5
     ·rw [if_pos c9] at H
      have c9b0 : (a0_5 == a1_5) = true := beq_iff_eq.mpr c9
      have c9b1 : (a0_5 != a1_5) = false := bne_eq_false_iff_eq.mpr c9
      clear c9
      replace H := Option.bind_eq_some_iff.mp H
      obtain ⟨t103, A100, H⟩ := H
      replace H : (if t103 = true then (pt192_) else (pt190_)) = some r := H
      have A10 := Aside0.mk A100
      clear A100
      by_cases c11 : t103 = true
      ·subst c11
       have H1 : (pt192_) = some r := by rw [if_pos rfl] at H; exact H
       clear H
       have H := H1
       clear H1
       have H' := Aside0.mk H
       clear H
       have hnb12 := NB101_102.out
       have hnc12 := NB102_101.out
       have hcz13_0 : w5.cell? ⟨gb101, 0, none⟩ = some (.int .i64 a0_0) := (blk_cell BK101.out 0).trans rfl
       have hcz13_1 : w5.cell? ⟨gb101, 1, none⟩ = some (.int .i64 a0_1) := (blk_cell BK101.out 1).trans rfl
       have hcz13_2 : w5.cell? ⟨gb101, 2, none⟩ = some (.slice A0_2 l0_2.length c0_2) := (blk_cell BK101.out 2).trans rfl
       have hcz13_3 : w5.cell? ⟨gb101, 3, none⟩ = some (.int .i64 a0_3) := (blk_cell BK101.out 3).trans rfl
       have hcz13_4 : w5.cell? ⟨gb101, 4, none⟩ = some (.slice A0_4 l0_4.length c0_4) := (blk_cell BK101.out 4).trans rfl
       have hcz13_5 : w5.cell? ⟨gb101, 5, none⟩ = some (.int .i64 a0_5) := (blk_cell BK101.out 5).trans rfl
       have hfz13_0 := blk_frozen BK101.out 0
       have hfz13_1 := blk_frozen BK101.out 1
       have hfz13_2 := blk_frozen BK101.out 2
       have hfz13_3 := blk_frozen BK101.out 3
       have hfz13_4 := blk_frozen BK101.out 4
       have hfz13_5 := blk_frozen BK101.out 5
       have hcz14_0 : w5.cell? ⟨gb102, 0, none⟩ = some (.int .i64 a1_0) := (blk_cell BK102.out 0).trans rfl
       have hcz14_1 : w5.cell? ⟨gb102, 1, none⟩ = some (.int .i64 a1_1) := (blk_cell BK102.out 1).trans rfl
       have hcz14_2 : w5.cell? ⟨gb102, 2, none⟩ = some (.slice A1_2 l1_2.length c1_2) := (blk_cell BK102.out 2).trans rfl
       have hcz14_3 : w5.cell? ⟨gb102, 3, none⟩ = some (.int .i64 a1_3) := (blk_cell BK102.out 3).trans rfl
       have hcz14_4 : w5.cell? ⟨gb102, 4, none⟩ = some (.slice A1_4 l1_4.length c1_4) := (blk_cell BK102.out 4).trans rfl
       have hcz14_5 : w5.cell? ⟨gb102, 5, none⟩ = some (.int .i64 a1_5) := (blk_cell BK102.out 5).trans rfl
       have hfz14_0 := blk_frozen BK102.out 0
       have hfz14_1 := blk_frozen BK102.out 1
       have hfz14_2 := blk_frozen BK102.out 2
       have hfz14_3 := blk_frozen BK102.out 3
       have hfz14_4 := blk_frozen BK102.out 4
       have hfz14_5 := blk_frozen BK102.out 5
       go_wp2_with (first | (go_at_call 48; (with_reducible refine (pt199_).mono ?_); (case side1 => repeat (first | exact (Kd.C_below HR0_4.out HB.out) | exact HR0_4.out | (with_reducible refine Kd.C_alloc ?_ _) | (with_reducible refine Kd.C_drewN ?_ _) | (with_reducible refine Kd.C_drew ?_))); (case side2 => exact HC0_4.out); (case side3 => repeat (first | exact (Kd.C_below HR1_4.out HB.out) | exact HR1_4.out | (with_reducible refine Kd.C_alloc ?_ _) | (with_reducible refine Kd.C_drewN ?_ _) | (with_reducible refine Kd.C_drew ?_))); (case side4 => exact HC1_4.out); rintro e w' ⟨rfl, ⟨nd, rfl⟩⟩; (try first | exact ⟨rfl, _, World.drewN_drewN _ _ _⟩ | exact ⟨rfl, _, Eq.trans (World.drewN_drewN _ _ _) (congrArg (World.drewN _) (Nat.add_assoc _ _ _))⟩)))
       repeat (go_quiet (first | (go_at_call 48; (with_reducible refine (pt199_).mono ?_); (case side1 => repeat (first | exact (Kd.C_below HR0_4.out HB.out) | exact HR0_4.out | (with_reducible refine Kd.C_alloc ?_ _) | (with_reducible refine Kd.C_drewN ?_ _) | (with_reducible refine Kd.C_drew ?_))); (case side2 => exact HC0_4.out); (case side3 => repeat (first | exact (Kd.C_below HR1_4.out HB.out) | exact HR1_4.out | (with_reducible refine Kd.C_alloc ?_ _) | (with_reducible refine Kd.C_drewN ?_ _) | (with_reducible refine Kd.C_drew ?_))); (case side4 => exact HC1_4.out); rintro e w' ⟨rfl, ⟨nd, rfl⟩⟩; (try first | exact ⟨rfl, _, World.drewN_drewN _ _ _⟩ | exact ⟨rfl, _, Eq.trans (World.drewN_drewN _ _ _) (congrArg (World.drewN _) (Nat.add_assoc _ _ _))⟩))); try go_wp2_with (first | (go_at_call 48; (with_reducible refine (pt199_).mono ?_); (case side1 => repeat (first | exact (Kd.C_below HR0_4.out HB.out) | exact HR0_4.out | (with_reducible refine Kd.C_alloc ?_ _) | (with_reducible refine Kd.C_drewN ?_ _) | (with_reducible refine Kd.C_drew ?_))); (case side2 => exact HC0_4.out); (case side3 => repeat (first | exact (Kd.C_below HR1_4.out HB.out) | exact HR1_4.out | (with_reducible refine Kd.C_alloc ?_ _) | (with_reducible refine Kd.C_drewN ?_ _) | (with_reducible refine Kd.C_drew ?_))); (case side4 => exact HC1_4.out); rintro e w' ⟨rfl, ⟨nd, rfl⟩⟩; (try first | exact ⟨rfl, _, World.drewN_drewN _ _ _⟩ | exact ⟨rfl, _, Eq.trans (World.drewN_drewN _ _ _) (congrArg (World.drewN _) (Nat.add_assoc _ _ _))⟩))))
       go_meet
       case rel => exact ⟨_, (((l0_2.length : Int) != (l1_2.length : Int))), (pt194_), H', ⟨by first | omega | exact Nat.le_refl _⟩, ⟨by qk_; exact BK101.out⟩, ⟨by qk_; exact BK102.out⟩, ⟨by qb2_ GE101 GE102⟩⟩
      ·replace c11 := Bool.eq_false_iff.mpr c11
       subst c11
       have H1 : (pt190_) = some r := by rw [if_neg (show ¬ (false = true) by decide)] at H; exact H
       clear H
       have H := H1
       clear H1
       have H' := Aside0.mk H
       clear H
       have hnb15 := NB101_102.out
       have hnc15 := NB102_101.out
       have hcz16_0 : w5.cell? ⟨gb101, 0, none⟩ = some (.int .i64 a0_0) := (blk_cell BK101.out 0).trans rfl
       have hcz16_1 : w5.cell? ⟨gb101, 1, none⟩ = some (.int .i64 a0_1) := (blk_cell BK101.out 1).trans rfl
       have hcz16_2 : w5.cell? ⟨gb101, 2, none⟩ = some (.slice A0_2 l0_2.length c0_2) := (blk_cell BK101.out 2).trans rfl
       have hcz16_3 : w5.cell? ⟨gb101, 3, none⟩ = some (.int .i64 a0_3) := (blk_cell BK101.out 3).trans rfl
       have hcz16_4 : w5.cell? ⟨gb101, 4, none⟩ = some (.slice A0_4 l0_4.length c0_4) := (blk_cell BK101.out 4).trans rfl
       have hcz16_5 : w5.cell? ⟨gb101, 5, none⟩ = some (.int .i64 a0_5) := (blk_cell BK101.out 5).trans rfl
       have hfz16_0 := blk_frozen BK101.out 0
       have hfz16_1 := blk_frozen BK101.out 1
       have hfz16_2 := blk_frozen BK101.out 2
       have hfz16_3 := blk_frozen BK101.out 3
       have hfz16_4 := blk_frozen BK101.out 4
       have hfz16_5 := blk_frozen BK101.out 5
       have hcz17_0 : w5.cell? ⟨gb102, 0, none⟩ = some (.int .i64 a1_0) := (blk_cell BK102.out 0).trans rfl
       have hcz17_1 : w5.cell? ⟨gb102, 1, none⟩ = some (.int .i64 a1_1) := (blk_cell BK102.out 1).trans rfl
       have hcz17_2 : w5.cell? ⟨gb102, 2, none⟩ = some (.slice A1_2 l1_2.length c1_2) := (blk_cell BK102.out 2).trans rfl
       have hcz17_3 : w5.cell? ⟨gb102, 3, none⟩ = some (.int .i64 a1_3) := (blk_cell BK102.out 3).trans rfl
       have hcz17_4 : w5.cell? ⟨gb102, 4, none⟩ = some (.slice A1_4 l1_4.length c1_4) := (blk_cell BK102.out 4).trans rfl
       have hcz17_5 : w5.cell? ⟨gb102, 5, none⟩ = some (.int .i64 a1_5) := (blk_cell BK102.out 5).trans rfl
       have hfz17_0 := blk_frozen BK102.out 0
       have hfz17_1 := blk_frozen BK102.out 1
       have hfz17_2 := blk_frozen BK102.out 2
       have hfz17_3 := blk_frozen BK102.out 3
       have hfz17_4 := blk_frozen BK102.out 4
       have hfz17_5 := blk_frozen BK102.out 5
       go_wp2_with (first | (go_at_call 48; (with_reducible refine (pt198_).mono ?_); (case side1 => repeat (first | exact (Kd.C_below HR0_4.out HB.out) | exact HR0_4.out | (with_reducible refine Kd.C_alloc ?_ _) | (with_reducible refine Kd.C_drewN ?_ _) | (with_reducible refine Kd.C_drew ?_))); (case side2 => exact HC0_4.out); (case side3 => repeat (first | exact (Kd.C_below HR1_4.out HB.out) | exact HR1_4.out | (with_reducible refine Kd.C_alloc ?_ _) | (with_reducible refine Kd.C_drewN ?_ _) | (with_reducible refine Kd.C_drew ?_))); (case side4 => exact HC1_4.out); rintro e w' ⟨rfl, ⟨nd, rfl⟩⟩; (try first | exact ⟨rfl, _, World.drewN_drewN _ _ _⟩ | exact ⟨rfl, _, Eq.trans (World.drewN_drewN _ _ _) (congrArg (World.drewN _) (Nat.add_assoc _ _ _))⟩)))
       repeat (go_quiet (first | (go_at_call 48; (with_reducible refine (pt198_).mono ?_); (case side1 => repeat (first | exact (Kd.C_below HR0_4.out HB.out) | exact HR0_4.out | (with_reducible refine Kd.C_alloc ?_ _) | (with_reducible refine Kd.C_drewN ?_ _) | (with_reducible refine Kd.C_drew ?_))); (case side2 => exact HC0_4.out); (case side3 => repeat (first | exact (Kd.C_below HR1_4.out HB.out) | exact HR1_4.out | (with_reducible refine Kd.C_alloc ?_ _) | (with_reducible refine Kd.C_drewN ?_ _) | (with_reducible refine Kd.C_drew ?_))); (case side4 => exact HC1_4.out); rintro e w' ⟨rfl, ⟨nd, rfl⟩⟩; (try first | exact ⟨rfl, _, World.drewN_drewN _ _ _⟩ | exact ⟨rfl, _, Eq.trans (World.drewN_drewN _ _ _) (congrArg (World.drewN _) (Nat.add_assoc _ _ _))⟩))); try go_wp2_with (first | (go_at_call 48; (with_reducible refine (pt198_).mono ?_); (case side1 => repeat (first | exact (Kd.C_below HR0_4.out HB.out) | exact HR0_4.out | (with_reducible refine Kd.C_alloc ?_ _) | (with_reducible refine Kd.C_drewN ?_ _) | (with_reducible refine Kd.C_drew ?_))); (case side2 => exact HC0_4.out); (case side3 => repeat (first | exact (Kd.C_below HR1_4.out HB.out) | exact HR1_4.out | (with_reducible refine Kd.C_alloc ?_ _) | (with_reducible refine Kd.C_drewN ?_ _) | (with_reducible refine Kd.C_drew ?_))); (case side4 => exact HC1_4.out); rintro e w' ⟨rfl, ⟨nd, rfl⟩⟩; (try first | exact ⟨rfl, _, World.drewN_drewN _ _ _⟩ | exact ⟨rfl, _, Eq.trans (World.drewN_drewN _ _ _) (congrArg (World.drewN _) (Nat.add_assoc _ _ _))⟩))))
       go_meet
       case rel => exact ⟨_, (true), (pt194_), H', ⟨by first | omega | exact Nat.le_refl _⟩, ⟨by qk_; exact BK101.out⟩, ⟨by qk_; exact BK102.out⟩, ⟨by qb2_ GE101 GE102⟩⟩
     ·rw [if_neg c9] at H
      have c9b0 : (a0_5 == a1_5) = false := beq_eq_false_iff_ne.mpr c9
      have c9b1 : (a0_5 != a1_5) = true := bne_iff_ne.mpr c9
      have H' := Aside0.mk H
      clear H
      have hnb18 := NB101_102.out
      have hnc18 := NB102_101.out
      have hcz19_0 : w5.cell? ⟨gb101, 0, none⟩ = some (.int .i64 a0_0) := (blk_cell BK101.out 0).trans rfl
      have hcz19_1 : w5.cell? ⟨gb101, 1, none⟩ = some (.int .i64 a0_1) := (blk_cell BK101.out 1).trans rfl
      have hcz19_2 : w5.cell? ⟨gb101, 2, none⟩ = some (.slice A0_2 l0_2.length c0_2) := (blk_cell BK101.out 2).trans rfl
      have hcz19_3 : w5.cell? ⟨gb101, 3, none⟩ = some (.int .i64 a0_3) := (blk_cell BK101.out 3).trans rfl
      have hcz19_4 : w5.cell? ⟨gb101, 4, none⟩ = some (.slice A0_4 l0_4.length c0_4) := (blk_cell BK101.out 4).trans rfl
      have hcz19_5 : w5.cell? ⟨gb101, 5, none⟩ = some (.int .i64 a0_5) := (blk_cell BK101.out 5).trans rfl
      have hfz19_0 := blk_frozen BK101.out 0
      have hfz19_1 := blk_frozen BK101.out 1
      have hfz19_2 := blk_frozen BK101.out 2
      have hfz19_3 := blk_frozen BK101.out 3
      have hfz19_4 := blk_frozen BK101.out 4
      have hfz19_5 := blk_frozen BK101.out 5
      have hcz20_0 : w5.cell? ⟨gb102, 0, none⟩ = some (.int .i64 a1_0) := (blk_cell BK102.out 0).trans rfl
      have hcz20_1 : w5.cell? ⟨gb102, 1, none⟩ = some (.int .i64 a1_1) := (blk_cell BK102.out 1).trans rfl
      have hcz20_2 : w5.cell? ⟨gb102, 2, none⟩ = some (.slice A1_2 l1_2.length c1_2) := (blk_cell BK102.out 2).trans rfl
      have hcz20_3 : w5.cell? ⟨gb102, 3, none⟩ = some (.int .i64 a1_3) := (blk_cell BK102.out 3).trans rfl
      have hcz20_4 : w5.cell? ⟨gb102, 4, none⟩ = some (.slice A1_4 l1_4.length c1_4) := (blk_cell BK102.out 4).trans rfl
      have hcz20_5 : w5.cell? ⟨gb102, 5, none⟩ = some (.int .i64 a1_5) := (blk_cell BK102.out 5).trans rfl
      have hfz20_0 := blk_frozen BK102.out 0
      have hfz20_1 := blk_frozen BK102.out 1
      have hfz20_2 := blk_frozen BK102.out 2
      have hfz20_3 := blk_frozen BK102.out 3
      have hfz20_4 := blk_frozen BK102.out 4
      have hfz20_5 := blk_frozen BK102.out 5
      go_wp2
      repeat (go_quiet (fail); try go_wp2)
      go_meet
      case rel => exact ⟨_, (true), (pt194_), H', ⟨by first | omega | exact Nat.le_refl _⟩, ⟨by qk_; exact BK101.out⟩, ⟨by qk_; exact BK102.out⟩, ⟨by qb2_ GE101 GE102⟩⟩
    ·rw [if_neg c8] at H
     have c8b0 : (a0_3 == a1_3) = false := beq_eq_false_iff_ne.mpr c8
     have c8b1 : (a0_3 != a1_3) = true := bne_iff_ne.mpr c8
     have H' := Aside0.mk H
     clear H
     have hnb21 := NB101_102.out
     have hnc21 := NB102_101.out
     have hcz22_0 : w5.cell? ⟨gb101, 0, none⟩ = some (.int .i64 a0_0) := (blk_cell BK101.out 0).trans rfl
     have hcz22_1 : w5.cell? ⟨gb101, 1, none⟩ = some (.int .i64 a0_1) := (blk_cell BK101.out 1).trans rfl
     have hcz22_2 : w5.cell? ⟨gb101, 2, none⟩ = some (.slice A0_2 l0_2.length c0_2) := (blk_cell BK101.out 2).trans rfl
     have hcz22_3 : w5.cell? ⟨gb101, 3, none⟩ = some (.int .i64 a0_3) := (blk_cell BK101.out 3).trans rfl
     have hcz22_4 : w5.cell? ⟨gb101, 4, none⟩ = some (.slice A0_4 l0_4.length c0_4) := (blk_cell BK101.out 4).trans rfl
     have hcz22_5 : w5.cell? ⟨gb101, 5, none⟩ = some (.int .i64 a0_5) := (blk_cell BK101.out 5).trans rfl
     have hfz22_0 := blk_frozen BK101.out 0
     have hfz22_1 := blk_frozen BK101.out 1
     have hfz22_2 := blk_frozen BK101.out 2
     have hfz22_3 := blk_frozen BK101.out 3
     have hfz22_4 := blk_frozen BK101.out 4
     have hfz22_5 := blk_frozen BK101.out 5
     have hcz23_0 : w5.cell? ⟨gb102, 0, none⟩ = some (.int .i64 a1_0) := (blk_cell BK102.out 0).trans rfl
     have hcz23_1 : w5.cell? ⟨gb102, 1, none⟩ = some (.int .i64 a1_1) := (blk_cell BK102.out 1).trans rfl
     have hcz23_2 : w5.cell? ⟨gb102, 2, none⟩ = some (.slice A1_2 l1_2.length c1_2) := (blk_cell BK102.out 2).trans rfl
     have hcz23_3 : w5.cell? ⟨gb102, 3, none⟩ = some (.int .i64 a1_3) := (blk_cell BK102.out 3).trans rfl
     have hcz23_4 : w5.cell? ⟨gb102, 4, none⟩ = some (.slice A1_4 l1_4.length c1_4) := (blk_cell BK102.out 4).trans rfl
     have hcz23_5 : w5.cell? ⟨gb102, 5, none⟩ = some (.int .i64 a1_5) := (blk_cell BK102.out 5).trans rfl
     have hfz23_0 := blk_frozen BK102.out 0
     have hfz23_1 := blk_frozen BK102.out 1
     have hfz23_2 := blk_frozen BK102.out 2
     have hfz23_3 := blk_frozen BK102.out 3
     have hfz23_4 := blk_frozen BK102.out 4
     have hfz23_5 := blk_frozen BK102.out 5
     go_wp2
     repeat (go_quiet (fail); try go_wp2)
     go_meet
     case rel => exact ⟨_, (true), (pt194_), H', ⟨by first | omega | exact Nat.le_refl _⟩, ⟨by qk_; exact BK101.out⟩, ⟨by qk_; exact BK102.out⟩, ⟨by qb2_ GE101 GE102⟩⟩
   ·rw [if_neg c7] at H
    have c7b0 : (a0_1 == a1_1) = false := beq_eq_false_iff_ne.mpr c7
    have c7b1 : (a0_1 != a1_1) = true := bne_iff_ne.mpr c7
    have H' := Aside0.mk H
    clear H
    have hnb24 := NB101_102.out
    have hnc24 := NB102_101.out
    have hcz25_0 : w5.cell? ⟨gb101, 0, none⟩ = some (.int .i64 a0_0) := (blk_cell BK101.out 0).trans rfl
    have hcz25_1 : w5.cell? ⟨gb101, 1, none⟩ = some (.int .i64 a0_1) := (blk_cell BK101.out 1).trans rfl
    have hcz25_2 : w5.cell? ⟨gb101, 2, none⟩ = some (.slice A0_2 l0_2.length c0_2) := (blk_cell BK101.out 2).trans rfl
    have hcz25_3 : w5.cell? ⟨gb101, 3, none⟩ = some (.int .i64 a0_3) := (blk_cell BK101.out 3).trans rfl
    have hcz25_4 : w5.cell? ⟨gb101, 4, none⟩ = some (.slice A0_4 l0_4.length c0_4) := (blk_cell BK101.out 4).trans rfl
    have hcz25_5 : w5.cell? ⟨gb101, 5, none⟩ = some (.int .i64 a0_5) := (blk_cell BK101.out 5).trans rfl
    have hfz25_0 := blk_frozen BK101.out 0
    have hfz25_1 := blk_frozen BK101.out 1
    have hfz25_2 := blk_frozen BK101.out 2
    have hfz25_3 := blk_frozen BK101.out 3
    have hfz25_4 := blk_frozen BK101.out 4
    have hfz25_5 := blk_frozen BK101.out 5
    have hcz26_0 : w5.cell? ⟨gb102, 0, none⟩ = some (.int .i64 a1_0) := (blk_cell BK102.out 0).trans rfl
    have hcz26_1 : w5.cell? ⟨gb102, 1, none⟩ = some (.int .i64 a1_1) := (blk_cell BK102.out 1).trans rfl
    have hcz26_2 : w5.cell? ⟨gb102, 2, none⟩ = some (.slice A1_2 l1_2.length c1_2) := (blk_cell BK102.out 2).trans rfl
    have hcz26_3 : w5.cell? ⟨gb102, 3, none⟩ = some (.int .i64 a1_3) := (blk_cell BK102.out 3).trans rfl
    have hcz26_4 : w5.cell? ⟨gb102, 4, none⟩ = some (.slice A1_4 l1_4.length c1_4) := (blk_cell BK102.out 4).trans rfl
    have hcz26_5 : w5.cell? ⟨gb102, 5, none⟩ = some (.int .i64 a1_5) := (blk_cell BK102.out 5).trans rfl
    have hfz26_0 := blk_frozen BK102.out 0
    have hfz26_1 := blk_frozen BK102.out 1
    have hfz26_2 := blk_frozen BK102.out 2
    have hfz26_3 := blk_frozen BK102.out 3
    have hfz26_4 := blk_frozen BK102.out 4
    have hfz26_5 := blk_frozen BK102.out 5
    go_wp2
    repeat (go_quiet (fail); try go_wp2)
    go_meet
    case rel => exact ⟨_, (true), (pt194_), H', ⟨by first | omega | exact Nat.le_refl _⟩, ⟨by qk_; exact BK101.out⟩, ⟨by qk_; exact BK102.out⟩, ⟨by qb2_ GE101 GE102⟩⟩
  ·rw [if_neg c6] at H
   have c6b0 : (a0_0 == a1_0) = false := beq_eq_false_iff_ne.mpr c6
   have c6b1 : (a0_0 != a1_0) = true := bne_iff_ne.mpr c6
   (first | rw [c6b0] | (simp only [i64_w, i32_w]; rw [c6b0]) | skip)
   have H' := Aside0.mk H
   clear H
   have hnb27 := NB101_102.out
   have hnc27 := NB102_101.out
   have hcz28_0 : w5.cell? ⟨gb101, 0, none⟩ = some (.int .i64 a0_0) := (blk_cell BK101.out 0).trans rfl
   have hcz28_1 : w5.cell? ⟨gb101, 1, none⟩ = some (.int .i64 a0_1) := (blk_cell BK101.out 1).trans rfl
   have hcz28_2 : w5.cell? ⟨gb101, 2, none⟩ = some (.slice A0_2 l0_2.length c0_2) := (blk_cell BK101.out 2).trans rfl
   have hcz28_3 : w5.cell? ⟨gb101, 3, none⟩ = some (.int .i64 a0_3) := (blk_cell BK101.out 3).trans rfl
   have hcz28_4 : w5.cell? ⟨gb101, 4, none⟩ = some (.slice A0_4 l0_4.length c0_4) := (blk_cell BK101.out 4).trans rfl
   have hcz28_5 : w5.cell? ⟨gb101, 5, none⟩ = some (.int .i64 a0_5) := (blk_cell BK101.out 5).trans rfl
   have hfz28_0 := blk_frozen BK101.out 0
   have hfz28_1 := blk_frozen BK101.out 1
   have hfz28_2 := blk_frozen BK101.out 2
   have hfz28_3 := blk_frozen BK101.out 3
   have hfz28_4 := blk_frozen BK101.out 4
   have hfz28_5 := blk_frozen BK101.out 5
   have hcz29_0 : w5.cell? ⟨gb102, 0, none⟩ = some (.int .i64 a1_0) := (blk_cell BK102.out 0).trans rfl
   have hcz29_1 : w5.cell? ⟨gb102, 1, none⟩ = some (.int .i64 a1_1) := (blk_cell BK102.out 1).trans rfl
   have hcz29_2 : w5.cell? ⟨gb102, 2, none⟩ = some (.slice A1_2 l1_2.length c1_2) := (blk_cell BK102.out 2).trans rfl
   have hcz29_3 : w5.cell? ⟨gb102, 3, none⟩ = some (.int .i64 a1_3) := (blk_cell BK102.out 3).trans rfl
   have hcz29_4 : w5.cell? ⟨gb102, 4, none⟩ = some (.slice A1_4 l1_4.length c1_4) := (blk_cell BK102.out 4).trans rfl
   have hcz29_5 : w5.cell? ⟨gb102, 5, none⟩ = some (.int .i64 a1_5) := (blk_cell BK102.out 5).trans rfl
   have hfz29_0 := blk_frozen BK102.out 0
   have hfz29_1 := blk_frozen BK102.out 1
   have hfz29_2 := blk_frozen BK102.out 2
   have hfz29_3 := blk_frozen BK102.out 3
   have hfz29_4 := blk_frozen BK102.out 4
   have hfz29_5 := blk_frozen BK102.out 5
   go_wp2
   repeat (go_quiet (fail); try go_wp2)
   go_meet
   case rel => exact ⟨_, (true), (pt194_), H', ⟨by first | omega | exact Nat.le_refl _⟩, ⟨by qk_; exact BK101.out⟩, ⟨by qk_; exact BK102.out⟩, ⟨by qb2_ GE101 GE102⟩⟩
 case rest =>
  clear HC3
  try clear c1
  try clear c2
  try clear p2
  try clear c5
  try clear c6
  try clear c6b0
  try clear c6b1
  try clear c7
  try clear c7b0
  try clear c7b1
  try clear c8
  try clear c8b0
  try clear c8b1
  try clear c9
  try clear c9b0
  try clear c9b1
  try clear c11
  try clear c12
  try clear c15
  try clear c18
  try clear c21
  try clear c24
  try clear c27
  try clear hcz13_0
  try clear hcz13_1
  try clear hcz13_2
  try clear hcz13_3
  try clear hcz13_4
  try clear hcz13_5
  try clear hcz14_0
  try clear hcz14_1
  try clear hcz14_2
  try clear hcz14_3
  try clear hcz14_4
  try clear hcz14_5
  try clear hcz16_0
  try clear hcz16_1
  try clear hcz16_2
  try clear hcz16_3
  try clear hcz16_4
  try clear hcz16_5
  try clear hcz17_0
  try clear hcz17_1
  try clear hcz17_2
  try clear hcz17_3
  try clear hcz17_4
  try clear hcz17_5
  try clear hcz19_0
  try clear hcz19_1
  try clear hcz19_2
  try clear hcz19_3
  try clear hcz19_4
  try clear hcz19_5
  try clear hcz20_0
  try clear hcz20_1
  try clear hcz20_2
  try clear hcz20_3
  try clear hcz20_4
  try clear hcz20_5
  try clear hcz22_0
  try clear hcz22_1
  try clear hcz22_2
  try clear hcz22_3
  try clear hcz22_4
  try clear hcz22_5
  try clear hcz23_0
  try clear hcz23_1
  try clear hcz23_2
  try clear hcz23_3
  try clear hcz23_4
  try clear hcz23_5
  try clear hcz25_0
  try clear hcz25_1
  try clear hcz25_2
  try clear hcz25_3
  try clear hcz25_4
  try clear hcz25_5
  try clear hcz26_0
  try clear hcz26_1
  try clear hcz26_2
  try clear hcz26_3
  try clear hcz26_4
  try clear hcz26_5
  try clear hcz28_0
  try clear hcz28_1
  try clear hcz28_2
  try clear hcz28_3
  try clear hcz28_4
  try clear hcz28_5
  try clear hcz29_0
  try clear hcz29_1
  try clear hcz29_2
  try clear hcz29_3
  try clear hcz29_4
  try clear hcz29_5
  try clear hfz13_0
  try clear hfz13_1
  try clear hfz13_2
  try clear hfz13_3
  try clear hfz13_4
  try clear hfz13_5
  try clear hfz14_0
  try clear hfz14_1
  try clear hfz14_2
  try clear hfz14_3
  try clear hfz14_4
  try clear hfz14_5
  try clear hfz16_0
  try clear hfz16_1
  try clear hfz16_2
  try clear hfz16_3
  try clear hfz16_4
  try clear hfz16_5
  try clear hfz17_0
  try clear hfz17_1
  try clear hfz17_2
  try clear hfz17_3
  try clear hfz17_4
  try clear hfz17_5
  try clear hfz19_0
  try clear hfz19_1
  try clear hfz19_2
  try clear hfz19_3
  try clear hfz19_4
  try clear hfz19_5
  try clear hfz20_0
  try clear hfz20_1
  try clear hfz20_2
  try clear hfz20_3
  try clear hfz20_4
  try clear hfz20_5
  try clear hfz22_0
  try clear hfz22_1
  try clear hfz22_2
  try clear hfz22_3
  try clear hfz22_4
  try clear hfz22_5
  try clear hfz23_0
  try clear hfz23_1
  try clear hfz23_2
  try clear hfz23_3
  try clear hfz23_4
  try clear hfz23_5
  try clear hfz25_0
  try clear hfz25_1
  try clear hfz25_2
  try clear hfz25_3
  try clear hfz25_4
  try clear hfz25_5
  try clear hfz26_0
  try clear hfz26_1
  try clear hfz26_2
  try clear hfz26_3
  try clear hfz26_4
  try clear hfz26_5
  try clear hfz28_0
  try clear hfz28_1
  try clear hfz28_2
  try clear hfz28_3
  try clear hfz28_4
  try clear hfz28_5
  try clear hfz29_0
  try clear hfz29_1
  try clear hfz29_2
  try clear hfz29_3
  try clear hfz29_4
  try clear hfz29_5
  obtain ⟨kq, x48_2, rfl, HA, HJ2, BK101, BK102, HB⟩ := hcut
  cases kq with
  | zero => exact absurd HA.out (by simp [shibbolethlaw06_told.j0])
  | succ kj2 =>
   have H := HA.out
   clear HA
   simp only [shibbolethlaw06_told.j0] at H
   by_cases c30 : x48_2 = true
   ·subst c30
    have H1 : (some false) = some r := by rw [if_pos rfl] at H; exact H
    clear H
    have H := H1
    clear H1
    obtain rfl := Option.some.inj H
    go_wp2
    repeat (go_quiet (fail); try go_wp2)
    go_ret
    lt190_
   ·replace c30 := Bool.eq_false_iff.mpr c30
    subst c30
    have H1 : (shibbolethlaw06_told.l0 kj2 0 a0_0 a0_1 l0_2 a0_3 l0_4 a0_5 a1_0 a1_1 l1_2 a1_3 l1_4 a1_5) = some r := by rw [if_neg (show ¬ (false = true) by decide)] at H; exact H
    clear H
    have H := H1
    clear H1
    have H' := Aside0.mk H
    clear H
    go_wp2
    repeat (go_quiet (fail); try go_wp2)
    go_loopg [5] kj2 (fun kq v5 w' => ∃ (x5_2 : Int), v5 = .int .i64 x5_2 ∧ Aside0 (shibbolethlaw06_told.l0 kq x5_2 a0_0 a0_1 l0_2 a0_3 l0_4 a0_5 a1_0 a1_1 l1_2 a1_3 l1_4 a1_5 = some r) ∧ Aside0 (kq ≤ kj2) ∧ Aside0 (w'.heap[gb101]? = some (.cells #[.int .i64 a0_0, .int .i64 a0_1, (.slice A0_2 l0_2.length c0_2), .int .i64 a0_3, (.slice A0_4 l0_4.length c0_4), .int .i64 a0_5] 58 (0, 0))) ∧ Aside0 (w'.heap[gb102]? = some (.cells #[.int .i64 a1_0, .int .i64 a1_1, (.slice A1_2 l1_2.length c1_2), .int .i64 a1_3, (.slice A1_4 l1_4.length c1_4), .int .i64 a1_5] 62 (0, 0))) ∧ Aside0 (Below w.heap.size w w'))
    case atStart => exact ⟨(0), (pt194_), H', ⟨Nat.le_refl _⟩, ⟨by qk_; exact BK101.out⟩, ⟨by qk_; exact BK102.out⟩, ⟨by qb2_ GE101 GE102⟩⟩
    case round =>
     clear H'
     try clear c1
     try clear c2
     try clear p2
     try clear c3
     try clear c5
     try clear c6
     try clear c6b0
     try clear c6b1
     try clear c7
     try clear c7b0
     try clear c7b1
     try clear c8
     try clear c8b0
     try clear c8b1
     try clear c9
     try clear c9b0
     try clear c9b1
     try clear c11
     try clear c12
     try clear c15
     try clear c18
     try clear c21
     try clear c24
     try clear c27
     try clear c30
     try clear hcz13_0
     try clear hcz13_1
     try clear hcz13_2
     try clear hcz13_3
     try clear hcz13_4
     try clear hcz13_5
     try clear hcz14_0
     try clear hcz14_1
     try clear hcz14_2
     try clear hcz14_3
     try clear hcz14_4
     try clear hcz14_5
     try clear hcz16_0
     try clear hcz16_1
     try clear hcz16_2
     try clear hcz16_3
     try clear hcz16_4
     try clear hcz16_5
     try clear hcz17_0
     try clear hcz17_1
     try clear hcz17_2
     try clear hcz17_3
     try clear hcz17_4
     try clear hcz17_5
     try clear hcz19_0
     try clear hcz19_1
     try clear hcz19_2
     try clear hcz19_3
     try clear hcz19_4
     try clear hcz19_5
     try clear hcz20_0
     try clear hcz20_1
     try clear hcz20_2
     try clear hcz20_3
     try clear hcz20_4
     try clear hcz20_5
     try clear hcz22_0
     try clear hcz22_1
     try clear hcz22_2
     try clear hcz22_3
     try clear hcz22_4
     try clear hcz22_5
     try clear hcz23_0
     try clear hcz23_1
     try clear hcz23_2
     try clear hcz23_3
     try clear hcz23_4
     try clear hcz23_5
     try clear hcz25_0
     try clear hcz25_1
     try clear hcz25_2
     try clear hcz25_3
     try clear hcz25_4
     try clear hcz25_5
     try clear hcz26_0
     try clear hcz26_1
     try clear hcz26_2
     try clear hcz26_3
     try clear hcz26_4
     try clear hcz26_5
     try clear hcz28_0
     try clear hcz28_1
     try clear hcz28_2
     try clear hcz28_3
     try clear hcz28_4
     try clear hcz28_5
     try clear hcz29_0
     try clear hcz29_1
     try clear hcz29_2
     try clear hcz29_3
     try clear hcz29_4
     try clear hcz29_5
     try clear hfz13_0
     try clear hfz13_1
     try clear hfz13_2
     try clear hfz13_3
     try clear hfz13_4
     try clear hfz13_5
     try clear hfz14_0
     try clear hfz14_1
     try clear hfz14_2
     try clear hfz14_3
     try clear hfz14_4
     try clear hfz14_5
     try clear hfz16_0
     try clear hfz16_1
     try clear hfz16_2
     try clear hfz16_3
     try clear hfz16_4
     try clear hfz16_5
     try clear hfz17_0
     try clear hfz17_1
     try clear hfz17_2
     try clear hfz17_3
     try clear hfz17_4
     try clear hfz17_5
     try clear hfz19_0
     try clear hfz19_1
     try clear hfz19_2
     try clear hfz19_3
     try clear hfz19_4
     try clear hfz19_5
     try clear hfz20_0
     try clear hfz20_1
     try clear hfz20_2
     try clear hfz20_3
     try clear hfz20_4
     try clear hfz20_5
     try clear hfz22_0
     try clear hfz22_1
     try clear hfz22_2
     try clear hfz22_3
     try clear hfz22_4
     try clear hfz22_5
     try clear hfz23_0
     try clear hfz23_1
     try clear hfz23_2
     try clear hfz23_3
     try clear hfz23_4
     try clear hfz23_5
     try clear hfz25_0
     try clear hfz25_1
     try clear hfz25_2
     try clear hfz25_3
     try clear hfz25_4
     try clear hfz25_5
     try clear hfz26_0
     try clear hfz26_1
     try clear hfz26_2
     try clear hfz26_3
     try clear hfz26_4
     try clear hfz26_5
     try clear hfz28_0
     try clear hfz28_1
     try clear hfz28_2
     try clear hfz28_3
     try clear hfz28_4
     try clear hfz28_5
     try clear hfz29_0
     try clear hfz29_1
     try clear hfz29_2
     try clear hfz29_3
     try clear hfz29_4
     try clear hfz29_5
     try clear p2
     obtain ⟨x5_2, rfl, HA, HK2, BK101, BK102, HB⟩ := hrel
     cases gk with
     | zero => exact absurd HA.out (by simp [shibbolethlaw06_told.l0])
     | succ k2 =>
      have H := HA.out
      clear HA
      simp only [shibbolethlaw06_told.l0] at H
      by_cases c31 : x5_2 < (l1_2.length : Int)
      ·rw [if_pos c31] at H
       have c31b0 : decide (x5_2 < (l1_2.length : Int)) = true := decide_eq_true c31
       clear c31
       by_cases c32 : 0 ≤ x5_2
       ·rw [if_pos c32] at H
        have c32b0 : decide (0 ≤ x5_2) = true := decide_eq_true c32
        clear c32
        by_cases c33 : x5_2 < (l0_2.length : Int)
        ·rw [if_pos c33] at H
         have c33b0 : decide (x5_2 < (l0_2.length : Int)) = true := decide_eq_true c33
         clear c33
         by_cases c34 : ((rd_T103 l0_2 x5_2).f0) = ((rd_T102 l1_2 x5_2).f0)
         ·rw [if_pos c34] at H
          have c34b0 : (((rd_T103 l0_2 x5_2).f0) == ((rd_T102 l1_2 x5_2).f0)) = true := beq_iff_eq.mpr c34
          have c34b1 : (((rd_T103 l0_2 x5_2).f0) != ((rd_T102 l1_2 x5_2).f0)) = false := bne_eq_false_iff_eq.mpr c34
          clear c34
          by_cases c35 : ((rd_T103 l0_2 x5_2).f1) = ((rd_T102 l1_2 x5_2).f1)
          ·rw [if_pos c35] at H
           have c35b0 : (((rd_T103 l0_2 x5_2).f1) == ((rd_T102 l1_2 x5_2).f1)) = true := beq_iff_eq.mpr c35
           have c35b1 : (((rd_T103 l0_2 x5_2).f1) != ((rd_T102 l1_2 x5_2).f1)) = false := bne_eq_false_iff_eq.mpr c35
           clear c35
           have H' := Aside0.mk H
           clear H
           have hnb36 := NB102_101.out
           have hnc36 := NB101_102.out
           have hcz37_0 : wr.cell? ⟨gb102, 0, none⟩ = some (.int .i64 a1_0) := (blk_cell BK102.out 0).trans rfl
           have hcz37_1 : wr.cell? ⟨gb102, 1, none⟩ = some (.int .i64 a1_1) := (blk_cell BK102.out 1).trans rfl
           have hcz37_2 : wr.cell? ⟨gb102, 2, none⟩ = some (.slice A1_2 l1_2.length c1_2) := (blk_cell BK102.out 2).trans rfl
           have hcz37_3 : wr.cell? ⟨gb102, 3, none⟩ = some (.int .i64 a1_3) := (blk_cell BK102.out 3).trans rfl
           have hcz37_4 : wr.cell? ⟨gb102, 4, none⟩ = some (.slice A1_4 l1_4.length c1_4) := (blk_cell BK102.out 4).trans rfl
           have hcz37_5 : wr.cell? ⟨gb102, 5, none⟩ = some (.int .i64 a1_5) := (blk_cell BK102.out 5).trans rfl
           have hfz37_0 := blk_frozen BK102.out 0
           have hfz37_1 := blk_frozen BK102.out 1
           have hfz37_2 := blk_frozen BK102.out 2
           have hfz37_3 := blk_frozen BK102.out 3
           have hfz37_4 := blk_frozen BK102.out 4
           have hfz37_5 := blk_frozen BK102.out 5
           have hcz38_0 : wr.cell? ⟨gb101, 0, none⟩ = some (.int .i64 a0_0) := (blk_cell BK101.out 0).trans rfl
           have hcz38_1 : wr.cell? ⟨gb101, 1, none⟩ = some (.int .i64 a0_1) := (blk_cell BK101.out 1).trans rfl
           have hcz38_2 : wr.cell? ⟨gb101, 2, none⟩ = some (.slice A0_2 l0_2.length c0_2) := (blk_cell BK101.out 2).trans rfl
           have hcz38_3 : wr.cell? ⟨gb101, 3, none⟩ = some (.int .i64 a0_3) := (blk_cell BK101.out 3).trans rfl
           have hcz38_4 : wr.cell? ⟨gb101, 4, none⟩ = some (.slice A0_4 l0_4.length c0_4) := (blk_cell BK101.out 4).trans rfl
           have hcz38_5 : wr.cell? ⟨gb101, 5, none⟩ = some (.int .i64 a0_5) := (blk_cell BK101.out 5).trans rfl
           have hfz38_0 := blk_frozen BK101.out 0
           have hfz38_1 := blk_frozen BK101.out 1
           have hfz38_2 := blk_frozen BK101.out 2
           have hfz38_3 := blk_frozen BK101.out 3
           have hfz38_4 := blk_frozen BK101.out 4
           have hfz38_5 := blk_frozen BK101.out 5
           have p104 : 0 ≤ (x5_2 : Int) := of_decide_eq_true (pt191_)
           have q104 : x5_2 < (l0_2.length : Int) := of_decide_eq_true (pt191_)
           lt191_
           cases e104
           lt192_
           lt193_
           replace p104 := eq_true p104
           replace q104 := eq_true q104
           have p105 : 0 ≤ (x5_2 : Int) := of_decide_eq_true (pt191_)
           have q105 : x5_2 < (l1_2.length : Int) := of_decide_eq_true (pt191_)
           lt194_
           cases e105
           lt195_
           lt196_
           replace p105 := eq_true p105
           replace q105 := eq_true q105
           have p106 : 0 ≤ (x5_2 : Int) := of_decide_eq_true (pt191_)
           have q106 : x5_2 < (l0_2.length : Int) := of_decide_eq_true (pt191_)
           obtain ⟨ad106, e106, hx106_0, hx106_1⟩ := at_T103 HR0_2.out x5_2 p106 q106
           obtain rfl : ad104 = ad106 := (by injection e106)
           replace hx106_0 := (HB.out.cell (World.block_lt_of_cell? w _ hx106_0)).trans hx106_0
           replace hx106_1 := (HB.out.cell (World.block_lt_of_cell? w _ hx106_1)).trans hx106_1
           replace p106 := eq_true p106
           replace q106 := eq_true q106
           have p107 : 0 ≤ (x5_2 : Int) := of_decide_eq_true (pt191_)
           have q107 : x5_2 < (l1_2.length : Int) := of_decide_eq_true (pt191_)
           obtain ⟨ad107, e107, hx107_0, hx107_1⟩ := at_T102 HR1_2.out x5_2 p107 q107
           obtain rfl : ad105 = ad107 := (by injection e107)
           replace hx107_0 := (HB.out.cell (World.block_lt_of_cell? w _ hx107_0)).trans hx107_0
           replace hx107_1 := (HB.out.cell (World.block_lt_of_cell? w _ hx107_1)).trans hx107_1
           replace p107 := eq_true p107
           replace q107 := eq_true q107
           go_wp2
           repeat (go_quiet (fail); try go_wp2)
           go_roundg k2
           case measure => have := HJ2.out; have := HK2.out; omega
           case rel => exact ⟨(wrap64 (x5_2 + 1)), (pt194_), H', ⟨by have := HJ2.out; have := HK2.out; omega⟩, ⟨by qk_; exact BK101.out⟩, ⟨by qk_; exact BK102.out⟩, ⟨by qb2_ GE101 GE102⟩⟩
          ·rw [if_neg c35] at H
           have c35b0 : (((rd_T103 l0_2 x5_2).f1) == ((rd_T102 l1_2 x5_2).f1)) = false := beq_eq_false_iff_ne.mpr c35
           have c35b1 : (((rd_T103 l0_2 x5_2).f1) != ((rd_T102 l1_2 x5_2).f1)) = true := bne_iff_ne.mpr c35
           obtain rfl := Option.some.inj H
           have hnb39 := NB102_101.out
           have hnc39 := NB101_102.out
           have hcz40_0 : wr.cell? ⟨gb102, 0, none⟩ = some (.int .i64 a1_0) := (blk_cell BK102.out 0).trans rfl
           have hcz40_1 : wr.cell? ⟨gb102, 1, none⟩ = some (.int .i64 a1_1) := (blk_cell BK102.out 1).trans rfl
           have hcz40_2 : wr.cell? ⟨gb102, 2, none⟩ = some (.slice A1_2 l1_2.length c1_2) := (blk_cell BK102.out 2).trans rfl
           have hcz40_3 : wr.cell? ⟨gb102, 3, none⟩ = some (.int .i64 a1_3) := (blk_cell BK102.out 3).trans rfl
           have hcz40_4 : wr.cell? ⟨gb102, 4, none⟩ = some (.slice A1_4 l1_4.length c1_4) := (blk_cell BK102.out 4).trans rfl
           have hcz40_5 : wr.cell? ⟨gb102, 5, none⟩ = some (.int .i64 a1_5) := (blk_cell BK102.out 5).trans rfl
           have hfz40_0 := blk_frozen BK102.out 0
           have hfz40_1 := blk_frozen BK102.out 1
           have hfz40_2 := blk_frozen BK102.out 2
           have hfz40_3 := blk_frozen BK102.out 3
           have hfz40_4 := blk_frozen BK102.out 4
           have hfz40_5 := blk_frozen BK102.out 5
           have hcz41_0 : wr.cell? ⟨gb101, 0, none⟩ = some (.int .i64 a0_0) := (blk_cell BK101.out 0).trans rfl
           have hcz41_1 : wr.cell? ⟨gb101, 1, none⟩ = some (.int .i64 a0_1) := (blk_cell BK101.out 1).trans rfl
           have hcz41_2 : wr.cell? ⟨gb101, 2, none⟩ = some (.slice A0_2 l0_2.length c0_2) := (blk_cell BK101.out 2).trans rfl
           have hcz41_3 : wr.cell? ⟨gb101, 3, none⟩ = some (.int .i64 a0_3) := (blk_cell BK101.out 3).trans rfl
           have hcz41_4 : wr.cell? ⟨gb101, 4, none⟩ = some (.slice A0_4 l0_4.length c0_4) := (blk_cell BK101.out 4).trans rfl
           have hcz41_5 : wr.cell? ⟨gb101, 5, none⟩ = some (.int .i64 a0_5) := (blk_cell BK101.out 5).trans rfl
           have hfz41_0 := blk_frozen BK101.out 0
           have hfz41_1 := blk_frozen BK101.out 1
           have hfz41_2 := blk_frozen BK101.out 2
           have hfz41_3 := blk_frozen BK101.out 3
           have hfz41_4 := blk_frozen BK101.out 4
           have hfz41_5 := blk_frozen BK101.out 5
           have p104 : 0 ≤ (x5_2 : Int) := of_decide_eq_true (pt191_)
           have q104 : x5_2 < (l0_2.length : Int) := of_decide_eq_true (pt191_)
           lt191_
           cases e104
           lt192_
           lt193_
           replace p104 := eq_true p104
           replace q104 := eq_true q104
           have p105 : 0 ≤ (x5_2 : Int) := of_decide_eq_true (pt191_)
           have q105 : x5_2 < (l1_2.length : Int) := of_decide_eq_true (pt191_)
           lt194_
           cases e105
           lt195_
           lt196_
           replace p105 := eq_true p105
           replace q105 := eq_true q105
           have p106 : 0 ≤ (x5_2 : Int) := of_decide_eq_true (pt191_)
           have q106 : x5_2 < (l0_2.length : Int) := of_decide_eq_true (pt191_)
           obtain ⟨ad106, e106, hx106_0, hx106_1⟩ := at_T103 HR0_2.out x5_2 p106 q106
           obtain rfl : ad104 = ad106 := (by injection e106)
           replace hx106_0 := (HB.out.cell (World.block_lt_of_cell? w _ hx106_0)).trans hx106_0
           replace hx106_1 := (HB.out.cell (World.block_lt_of_cell? w _ hx106_1)).trans hx106_1
           replace p106 := eq_true p106
           replace q106 := eq_true q106
           have p107 : 0 ≤ (x5_2 : Int) := of_decide_eq_true (pt191_)
           have q107 : x5_2 < (l1_2.length : Int) := of_decide_eq_true (pt191_)
           obtain ⟨ad107, e107, hx107_0, hx107_1⟩ := at_T102 HR1_2.out x5_2 p107 q107
           obtain rfl : ad105 = ad107 := (by injection e107)
           replace hx107_0 := (HB.out.cell (World.block_lt_of_cell? w _ hx107_0)).trans hx107_0
           replace hx107_1 := (HB.out.cell (World.block_lt_of_cell? w _ hx107_1)).trans hx107_1
           replace p107 := eq_true p107
           replace q107 := eq_true q107
           go_wp2
           repeat (go_quiet (fail); try go_wp2)
           go_ret
           lt190_
         ·rw [if_neg c34] at H
          have c34b0 : (((rd_T103 l0_2 x5_2).f0) == ((rd_T102 l1_2 x5_2).f0)) = false := beq_eq_false_iff_ne.mpr c34
          have c34b1 : (((rd_T103 l0_2 x5_2).f0) != ((rd_T102 l1_2 x5_2).f0)) = true := bne_iff_ne.mpr c34
          obtain rfl := Option.some.inj H
          have hnb42 := NB102_101.out
          have hnc42 := NB101_102.out
          have hcz43_0 : wr.cell? ⟨gb102, 0, none⟩ = some (.int .i64 a1_0) := (blk_cell BK102.out 0).trans rfl
          have hcz43_1 : wr.cell? ⟨gb102, 1, none⟩ = some (.int .i64 a1_1) := (blk_cell BK102.out 1).trans rfl
          have hcz43_2 : wr.cell? ⟨gb102, 2, none⟩ = some (.slice A1_2 l1_2.length c1_2) := (blk_cell BK102.out 2).trans rfl
          have hcz43_3 : wr.cell? ⟨gb102, 3, none⟩ = some (.int .i64 a1_3) := (blk_cell BK102.out 3).trans rfl
          have hcz43_4 : wr.cell? ⟨gb102, 4, none⟩ = some (.slice A1_4 l1_4.length c1_4) := (blk_cell BK102.out 4).trans rfl
          have hcz43_5 : wr.cell? ⟨gb102, 5, none⟩ = some (.int .i64 a1_5) := (blk_cell BK102.out 5).trans rfl
          have hfz43_0 := blk_frozen BK102.out 0
          have hfz43_1 := blk_frozen BK102.out 1
          have hfz43_2 := blk_frozen BK102.out 2
          have hfz43_3 := blk_frozen BK102.out 3
          have hfz43_4 := blk_frozen BK102.out 4
          have hfz43_5 := blk_frozen BK102.out 5
          have hcz44_0 : wr.cell? ⟨gb101, 0, none⟩ = some (.int .i64 a0_0) := (blk_cell BK101.out 0).trans rfl
          have hcz44_1 : wr.cell? ⟨gb101, 1, none⟩ = some (.int .i64 a0_1) := (blk_cell BK101.out 1).trans rfl
          have hcz44_2 : wr.cell? ⟨gb101, 2, none⟩ = some (.slice A0_2 l0_2.length c0_2) := (blk_cell BK101.out 2).trans rfl
          have hcz44_3 : wr.cell? ⟨gb101, 3, none⟩ = some (.int .i64 a0_3) := (blk_cell BK101.out 3).trans rfl
          have hcz44_4 : wr.cell? ⟨gb101, 4, none⟩ = some (.slice A0_4 l0_4.length c0_4) := (blk_cell BK101.out 4).trans rfl
          have hcz44_5 : wr.cell? ⟨gb101, 5, none⟩ = some (.int .i64 a0_5) := (blk_cell BK101.out 5).trans rfl
          have hfz44_0 := blk_frozen BK101.out 0
          have hfz44_1 := blk_frozen BK101.out 1
          have hfz44_2 := blk_frozen BK101.out 2
          have hfz44_3 := blk_frozen BK101.out 3
          have hfz44_4 := blk_frozen BK101.out 4
          have hfz44_5 := blk_frozen BK101.out 5
          have p104 : 0 ≤ (x5_2 : Int) := of_decide_eq_true (pt191_)
          have q104 : x5_2 < (l0_2.length : Int) := of_decide_eq_true (pt191_)
          lt191_
          cases e104
          lt192_
          lt193_
          replace p104 := eq_true p104
          replace q104 := eq_true q104
          have p105 : 0 ≤ (x5_2 : Int) := of_decide_eq_true (pt191_)
          have q105 : x5_2 < (l1_2.length : Int) := of_decide_eq_true (pt191_)
          lt194_
          cases e105
          lt195_
          lt196_
          replace p105 := eq_true p105
          replace q105 := eq_true q105
          go_wp2
          repeat (go_quiet (fail); try go_wp2)
          go_ret
          lt190_
        ·rw [if_neg c33] at H
         exact absurd H (by simp)
       ·rw [if_neg c32] at H
        exact absurd H (by simp)
      ·rw [if_neg c31] at H
       have c31b0 : decide (x5_2 < (l1_2.length : Int)) = false := decide_eq_false c31
       clear c31
       obtain rfl := Option.some.inj H
       have hnb45 := NB102_101.out
       have hnc45 := NB101_102.out
       have hcz46_0 : wr.cell? ⟨gb102, 0, none⟩ = some (.int .i64 a1_0) := (blk_cell BK102.out 0).trans rfl
       have hcz46_1 : wr.cell? ⟨gb102, 1, none⟩ = some (.int .i64 a1_1) := (blk_cell BK102.out 1).trans rfl
       have hcz46_2 : wr.cell? ⟨gb102, 2, none⟩ = some (.slice A1_2 l1_2.length c1_2) := (blk_cell BK102.out 2).trans rfl
       have hcz46_3 : wr.cell? ⟨gb102, 3, none⟩ = some (.int .i64 a1_3) := (blk_cell BK102.out 3).trans rfl
       have hcz46_4 : wr.cell? ⟨gb102, 4, none⟩ = some (.slice A1_4 l1_4.length c1_4) := (blk_cell BK102.out 4).trans rfl
       have hcz46_5 : wr.cell? ⟨gb102, 5, none⟩ = some (.int .i64 a1_5) := (blk_cell BK102.out 5).trans rfl
       have hfz46_0 := blk_frozen BK102.out 0
       have hfz46_1 := blk_frozen BK102.out 1
       have hfz46_2 := blk_frozen BK102.out 2
       have hfz46_3 := blk_frozen BK102.out 3
       have hfz46_4 := blk_frozen BK102.out 4
       have hfz46_5 := blk_frozen BK102.out 5
       go_wp2
       repeat (go_quiet (fail); try go_wp2)
       go_ret
       lt190_
end Go.Proofs.YtbcleckapamicaaDoor.QFd
namespace Go.Proofs.YtbcleckapamicaaDoor.Rf
open Go Go.RowKit Go.Proofs.YtbcleckapamicaaDoorW.PrintWords Go.Proofs.YtbcleckapamicaaDoorW.PrintLast Go.Proofs.YtbcleckapamicaaDoorW.PrintMore
open Go.Proofs.YtbcleckapamicaaDoor.Onl (Only)
open Go.Proofs.YtbcleckapamicaaDoor.Vn (vread vsize num)
open Go.Proofs.YtbcleckapamicaaDoor.Fd (rnum rbyt rtrm info5)
set_option linter.unusedVariables false
set_option linter.unusedSimpArgs false
structure Rb (w0 w : World) (rb : Nat) (A : Option Addr) (c : Nat) (l : List Int) (bad : Bool) : Prop where
  c0 : w.cell? ⟨rb, 0, none⟩ = some (.slice A l.length c)
  c1 : w.cell? ⟨rb, 1, none⟩ = some (.bool bad)
  f0 : w.frozen? ⟨rb, 0, none⟩ = false
  f1 : w.frozen? ⟨rb, 1, none⟩ = false
  lo : w0.heap.size ≤ rb
  bl : Below w0.heap.size w0 w
  C : Kd.C (Kd.int .u8) w0 A l.length l
  lc : l.length ≤ c
  lm : l.length ≤ 100000
  by_ : ∀ x ∈ l, 0 ≤ x ∧ x ≤ 255
section
variable {w0 w w' : World} {rb : Nat} {A : Option Addr} {c : Nat} {l : List Int} {bad : Bool}
theorem Rb.lt (h : Rb w0 w rb A c l bad) : rb < w.heap.size := World.block_lt_of_cell? w _ h.c0
theorem Rb.only {p : Nat → Prop} (h : Rb w0 w rb A c l bad) (ho : Only p w w') (hn : ¬ p rb) (hp : ∀ k, p k → w0.heap.size ≤ k) : Rb w0 w' rb A c l bad :=
  ⟨ho.cell (ad := ⟨rb, 0, none⟩) hn h.c0, ho.cell (ad := ⟨rb, 1, none⟩) hn h.c1, by
    have := h.f0
    unfold World.frozen? at this ⊢
    rw [ho.block rb h.lt hn]; exact this, by
    have := h.f1
    unfold World.frozen? at this ⊢
    rw [ho.block rb h.lt hn]; exact this, h.lo, h.bl.trans (ho.below h.bl.size hp), h.C, h.lc, h.lm, h.by_⟩
theorem Rb.below (h : Rb w0 w rb A c l bad) (hb : Below w.heap.size w w') : Rb w0 w' rb A c l bad :=
  h.only (p := fun _ => False) (Only.of_below hb) (fun q => q) (fun _ q => q.elim)
theorem Rb.set (h : Rb w0 w rb A c l bad) {A' : Option Addr} {c' : Nat} (x : List Int) (hC : Kd.C (Kd.int .u8) w0 A' x.length x) (hc : x.length ≤ c') (hl : x.length ≤ l.length) (hx : ∀ y ∈ x, y ∈ l) :
    Rb w0 (w.setCell ⟨rb, 0, none⟩ (.slice A' x.length c')) rb A' c' x bad :=
  ⟨World.cell?_setCell_same _ _ _ h.c0, (World.cell?_setCell_other _ _ _ _ (by simp)).trans h.c1, by rw [World.frozen?_setCell]; exact h.f0, by rw [World.frozen?_setCell]; exact h.f1, h.lo, h.bl.setCell h.lo _, hC, hc, Nat.le_trans hl h.lm, fun y hy => h.by_ y (hx y hy)⟩
theorem Rb.mark (h : Rb w0 w rb A c l bad) (b : Bool) : Rb w0 (w.setCell ⟨rb, 1, none⟩ (.bool b)) rb A c l b :=
  ⟨(World.cell?_setCell_other _ _ _ _ (by simp)).trans h.c0, World.cell?_setCell_same _ _ _ h.c1, by rw [World.frozen?_setCell]; exact h.f0, by rw [World.frozen?_setCell]; exact h.f1, h.lo, h.bl.setCell h.lo _, h.C, h.lc, h.lm, h.by_⟩
end
def Rs (w0 w : World) (rb : Nat) : Option (List Int) → Prop
  | some l => ∃ A c, Rb w0 w rb A c l false
  | none => ∃ A c l, Rb w0 w rb A c l true
theorem Rs.some_ {w0 w : World} {rb : Nat} {l : List Int} (h : Rs w0 w rb (some l)) : ∃ A c, Rb w0 w rb A c l false := h
theorem Rs.any {w0 w : World} {rb : Nat} {S : Option (List Int)} (h : Rs w0 w rb S) : ∃ A c l, Rb w0 w rb A c l S.isNone ∧ ∀ x, S = some x → x = l := by
  cases S with
  | none => obtain ⟨A, c, l, h⟩ := h; exact ⟨A, c, l, h, fun _ q => by cases q⟩
  | some x => obtain ⟨A, c, h⟩ := h; exact ⟨A, c, x, h, fun _ q => by injection q with q; exact q.symm⟩
theorem Rs.only {w0 w w' : World} {rb : Nat} {S : Option (List Int)} {p : Nat → Prop} (h : Rs w0 w rb S) (ho : Only p w w') (hn : ¬ p rb) (hp : ∀ k, p k → w0.heap.size ≤ k) : Rs w0 w' rb S := by
  cases S with
  | none => obtain ⟨A, c, l, h⟩ := h; exact ⟨A, c, l, h.only ho hn hp⟩
  | some x => obtain ⟨A, c, h⟩ := h; exact ⟨A, c, h.only ho hn hp⟩
theorem Rs.below {w0 w w' : World} {rb : Nat} {S : Option (List Int)} (h : Rs w0 w rb S) (hb : Below w.heap.size w w') : Rs w0 w' rb S :=
  h.only (p := fun _ => False) (Only.of_below hb) (fun q => q) (fun _ q => q.elim)
theorem Rs.lt {w0 w : World} {rb : Nat} {S : Option (List Int)} (h : Rs w0 w rb S) : rb < w.heap.size := by obtain ⟨A, c, l, h, _⟩ := h.any; exact h.lt
theorem Rs.lo {w0 w : World} {rb : Nat} {S : Option (List Int)} (h : Rs w0 w rb S) : w0.heap.size ≤ rb := by obtain ⟨A, c, l, h, _⟩ := h.any; exact h.lo
theorem Rs.bl {w0 w : World} {rb : Nat} {S : Option (List Int)} (h : Rs w0 w rb S) : Below w0.heap.size w0 w := by obtain ⟨A, c, l, h, _⟩ := h.any; exact h.bl
theorem Rs.by_ {w0 w : World} {rb : Nat} {l : List Int} (h : Rs w0 w rb (some l)) : (∀ x ∈ l, 0 ≤ x ∧ x ≤ 255) ∧ l.length ≤ 100000 := by obtain ⟨A, c, h⟩ := h; exact ⟨h.by_, h.lm⟩
def numS (S : Option (List Int)) : Int × Option (List Int) := match S.bind rnum with
  | some (n, r) => (n, some r)
  | none => (0, none)
def bytS (S : Option (List Int)) (n : Int) : List Int × Option (List Int) := match S.bind (rbyt · n) with
  | some (d, r) => (d, some r)
  | none => ([], none)
def Row0 (w0 : World) (v : Value) (r : List Int) : Prop := ∃ A' c', v = .slice A' r.length c' ∧ Kd.C (Kd.int .u8) w0 A' r.length r ∧ r.length ≤ c'
theorem row0_nil (w0 : World) : Row0 w0 (.slice none 0 0) [] := ⟨none, 0, rfl, (Kd.R_reads' (Kd.R_nil (Kd.int .u8) 5 w0 w0.heap.size (fun _ => True))).2.2, Nat.le_refl _⟩
theorem ref_read (W w0 : World) (A : Option Addr) (c : Nat) (l : List Int) (hC : Kd.C (Kd.int .u8) w0 A l.length l) (hb : Below w0.heap.size w0 W) (hc : l.length ≤ c) (hm : l.length ≤ 100000) (hby : ∀ x ∈ l, 0 ≤ x ∧ x ≤ 255) :
    Calls Tryd.prog 28 #[.slice A l.length c] W fun en w' => en = .returned (.tuple #[.int .i64 (vread l).1, .int .i64 (vread l).2.1, .int .i64 (vread l).2.2]) ∧ ∃ m, w' = W.drewN m := by
  refine (QVa.shibbolethref01_Read.calls 100 A c l _ _ _ W (Kd.C_below hC hb) hc (VaP.read_f l hby (by omega) 100 (by omega))).mono ?_
  rintro e w' ⟨rfl, ⟨m, rfl⟩⟩
  exact ⟨rfl, m, rfl⟩
theorem vread_range {l : List Int} (he : (vread l).2.2 = 0) : 0 ≤ (vread l).2.1 ∧ (vread l).2.1 ≤ l.length := by
  unfold vread at he ⊢
  by_cases h0 : l.length = 0
  · rw [if_pos h0] at he; simp at he
  rw [if_neg h0] at he ⊢
  by_cases h1 : l.length < 2 ^ (rd l 0 / 64).toNat
  · rw [if_pos h1] at he; simp at he
  rw [if_neg h1] at he ⊢
  split at he
  · rename_i q
    rw [if_pos q]
    exact ⟨Int.natCast_nonneg _, by simp only []; omega⟩
  · simp at he
set_option maxHeartbeats 2000000 in
set_option maxRecDepth 100000 in
theorem number_ok {w0 w : World} {rb : Nat} {A : Option Addr} {c : Nat} {l : List Int} (h : Rb w0 w rb A c l false) (he : (vread l).2.2 = 0) :
    Calls Tryd.prog 83 #[.pointer (some ⟨rb, 0, none⟩)] w fun en w' => en = .returned (.int .i64 (vread l).1) ∧ Rs w0 w' rb (some (l.drop (vread l).2.1.toNat)) ∧ Only (fun k => k = rb) w w' := by
  have c0 := h.c0
  have c1 := h.c1
  have f0 := h.f0
  have f1 := h.f1
  have HH := Aside0.mk h
  have HV := Aside0.mk (ref_read w w0 A c l h.C h.bl h.lc h.lm h.by_)
  obtain ⟨hr0, hr1⟩ := vread_range he
  obtain ⟨s, hs⟩ := Int.eq_ofNat_of_zero_le hr0
  have hsl : s ≤ l.length := by omega
  rw [he, hs] at HV
  rw [hs]
  generalize (vread l).1 = n at HV ⊢
  obtain ⟨i05, hi5, _, hsz5, _⟩ := info_parts info5
  obtain ⟨A5, hs5, hR5, hc5⟩ := print_drop_of (P := Tryd.prog) (Value.int .u8) (0 : Int) 22 5 .i64 Tryd.underlying22 hi5 hsz5 A c l (s : Int) (by omega) (by omega) h.lc
  simp only [Int.toNat_natCast] at hs5 hR5 hc5 ⊢
  have hsub : ∀ y ∈ l.drop s, y ∈ l := fun y hy => List.mem_of_mem_drop hy
  have hdl : (l.drop s).length ≤ l.length := by simp
  obtain ⟨y, hy⟩ : ∃ y, l.drop s = y := ⟨_, rfl⟩
  rw [hy] at hs5 hR5 hc5 hsub hdl ⊢
  have HC5 := Aside0.mk (show Kd.C (Kd.int .u8) w0 A5 y.length y from Kd.C_of_reads (h1 := fun _ => rfl) (hR5 _ (Kd.reads_of_C h.C)))
  have HCC5 := Aside0.mk hc5
  have HSub := Aside0.mk hsub
  have HDl := Aside0.mk hdl
  clear h hi5 hsz5 hR5 hc5 hy hsub hdl he hs hsl hr0 hr1
  go_enter Tryd.func83, Tryd.ntmps83
  go_wp2_with (go_at_call 28; refine HV.out.mono ?_; rintro e2 w2 ⟨rfl, ⟨k, rfl⟩⟩)
  go_ret
  have HD := (HH.out.below (w' := w.drewN k) (pw_below_drewN (Below.refl _ _) k))
  exact ⟨rfl, ⟨_, _, HD.set y HC5.out HCC5.out HDl.out HSub.out⟩, ((Only.refl (fun k => k = rb) w).drewN k).setCell (ad := ⟨rb, 0, none⟩) rfl _⟩
set_option maxHeartbeats 2000000 in
set_option maxRecDepth 100000 in
theorem number_bad {w0 w : World} {rb : Nat} {A : Option Addr} {c : Nat} {l : List Int} {bad : Bool} (h : Rb w0 w rb A c l bad) (he : bad = false → (vread l).2.2 ≠ 0) :
    Calls Tryd.prog 83 #[.pointer (some ⟨rb, 0, none⟩)] w fun en w' => en = .returned (.int .i64 0) ∧ Rs w0 w' rb none ∧ Only (fun k => k = rb) w w' := by
  have c0 := h.c0
  have c1 := h.c1
  have f0 := h.f0
  have f1 := h.f1
  have HH := Aside0.mk h
  have HV := Aside0.mk (ref_read w w0 A c l h.C h.bl h.lc h.lm h.by_)
  generalize (vread l).1 = n at HV
  generalize (vread l).2.1 = s at HV
  generalize (vread l).2.2 = e at HV he
  clear h
  by_cases h0 : e = 0
  · subst h0
    cases bad with
    | false => exact absurd rfl (he rfl)
    | true =>
      clear he
      go_enter Tryd.func83, Tryd.ntmps83
      go_wp2_with (go_at_call 28; refine HV.out.mono ?_; rintro e2 w2 ⟨rfl, ⟨k, rfl⟩⟩)
      go_ret
      have HD := (HH.out.below (w' := w.drewN k) (pw_below_drewN (Below.refl _ _) k))
      exact ⟨rfl, ⟨_, _, _, HD.mark true⟩, ((Only.refl (fun k => k = rb) w).drewN k).setCell (ad := ⟨rb, 1, none⟩) rfl _⟩
  · have q0 : (e == 0) = false := by simpa using h0
    have q1 : decide (e = 0) = false := decide_eq_false h0
    have q2 : (e != 0) = true := by simpa using h0
    clear h0 he
    go_enter Tryd.func83, Tryd.ntmps83
    go_wp2_with (go_at_call 28; refine HV.out.mono ?_; rintro e2 w2 ⟨rfl, ⟨k, rfl⟩⟩)
    go_ret
    have HD := (HH.out.below (w' := w.drewN k) (pw_below_drewN (Below.refl _ _) k))
    exact ⟨rfl, ⟨_, _, _, HD.mark true⟩, ((Only.refl (fun k => k = rb) w).drewN k).setCell (ad := ⟨rb, 1, none⟩) rfl _⟩
theorem number_calls {w0 w : World} {rb : Nat} {S : Option (List Int)} (h : Rs w0 w rb S) :
    Calls Tryd.prog 83 #[.pointer (some ⟨rb, 0, none⟩)] w fun en w' => en = .returned (.int .i64 (numS S).1) ∧ Rs w0 w' rb (numS S).2 ∧ Only (fun k => k = rb) w w' := by
  cases S with
  | none =>
    obtain ⟨A, c, l, h⟩ := h
    exact number_bad h (fun q => by cases q)
  | some l =>
    obtain ⟨A, c, h⟩ := h
    by_cases he : (vread l).2.2 = 0
    · have e1 : numS (some l) = ((vread l).1, some (l.drop (vread l).2.1.toNat)) := by unfold numS; rw [Option.bind_some]; unfold rnum; rw [if_pos he]
      rw [e1]
      exact number_ok h he
    · have e1 : numS (some l) = (0, none) := by unfold numS; rw [Option.bind_some]; unfold rnum; rw [if_neg he]
      rw [e1]
      exact number_bad h (fun _ => he)
set_option maxHeartbeats 2000000 in
set_option maxRecDepth 100000 in
theorem bytes_ok {w0 w : World} {rb : Nat} {A : Option Addr} {c : Nat} {l : List Int} (h : Rb w0 w rb A c l false) (n : Nat) (hn : n ≤ l.length) :
    Calls Tryd.prog 81 #[.pointer (some ⟨rb, 0, none⟩), .int .i64 n] w fun en w' => ∃ v, en = .returned v ∧ Row0 w0 v (l.take n) ∧ Rs w0 w' rb (some (l.drop n)) ∧ Only (fun k => k = rb) w w' := by
  have c0 := h.c0
  have c1 := h.c1
  have f0 := h.f0
  have f1 := h.f1
  have hm := h.lm
  have d0 : decide ((l.length : Int) < (n : Int)) = false := decide_eq_false (by omega)
  have d1 : decide (l.length < n) = false := decide_eq_false (by omega)
  have HH := Aside0.mk h
  obtain ⟨i05, hi5, _, hsz5, _⟩ := info_parts info5
  obtain ⟨hs4, hR4, hc4⟩ := print_take_of (P := Tryd.prog) (Value.int .u8) (0 : Int) 22 5 .i64 Tryd.underlying22 hi5 hsz5 A c l (n : Int) (by omega) (by omega) h.lc
  obtain ⟨A5, hs5, hR5, hc5⟩ := print_drop_of (P := Tryd.prog) (Value.int .u8) (0 : Int) 22 5 .i64 Tryd.underlying22 hi5 hsz5 A c l (n : Int) (by omega) (by omega) h.lc
  simp only [Int.toNat_natCast] at hs4 hR4 hc4 hs5 hR5 hc5
  have hsub : ∀ y ∈ l.drop n, y ∈ l := fun y hy => List.mem_of_mem_drop hy
  have hdl : (l.drop n).length ≤ l.length := by simp
  obtain ⟨x, hx⟩ : ∃ x, l.take n = x := ⟨_, rfl⟩
  obtain ⟨y, hy⟩ : ∃ y, l.drop n = y := ⟨_, rfl⟩
  rw [hx] at hs4 hR4 hc4 ⊢
  rw [hy] at hs5 hR5 hc5 hsub hdl ⊢
  have HC4 := Aside0.mk (show Kd.C (Kd.int .u8) w0 A x.length x from Kd.C_of_reads (h1 := fun _ => rfl) (hR4 _ (Kd.reads_of_C h.C)))
  have HC5 := Aside0.mk (show Kd.C (Kd.int .u8) w0 A5 y.length y from Kd.C_of_reads (h1 := fun _ => rfl) (hR5 _ (Kd.reads_of_C h.C)))
  have HCC4 := Aside0.mk hc4
  have HCC5 := Aside0.mk hc5
  have HSub := Aside0.mk hsub
  have HDl := Aside0.mk hdl
  clear h hn hm hi5 hsz5 hR4 hc4 hR5 hc5 hx hy hsub hdl
  go_enter Tryd.func81, Tryd.ntmps81
  go_wp2
  go_ret
  exact ⟨_, rfl, ⟨_, _, rfl, HC4.out, HCC4.out⟩, ⟨_, _, HH.out.set y HC5.out HCC5.out HDl.out HSub.out⟩, (Only.refl (fun k => k = rb) w).setCell (ad := ⟨rb, 0, none⟩) rfl _⟩
set_option maxHeartbeats 2000000 in
set_option maxRecDepth 100000 in
theorem bytes_bad {w0 w : World} {rb : Nat} {A : Option Addr} {c : Nat} {l : List Int} {bad : Bool} (h : Rb w0 w rb A c l bad) (n : Int) (hn : bad = false → (l.length : Int) < n) :
    Calls Tryd.prog 81 #[.pointer (some ⟨rb, 0, none⟩), .int .i64 n] w fun en w' => en = .returned (.slice none 0 0) ∧ Rs w0 w' rb none ∧ Only (fun k => k = rb) w w' := by
  have c0 := h.c0
  have c1 := h.c1
  have f0 := h.f0
  have f1 := h.f1
  have HH := Aside0.mk h
  clear h
  cases bad with
  | true =>
    clear hn
    go_enter Tryd.func81, Tryd.ntmps81
    go_wp2
    go_ret
    exact ⟨rfl, ⟨_, _, _, HH.out.mark true⟩, (Only.refl (fun k => k = rb) w).setCell (ad := ⟨rb, 1, none⟩) rfl _⟩
  | false =>
    have d0 : decide ((l.length : Int) < n) = true := decide_eq_true (hn rfl)
    clear hn
    go_enter Tryd.func81, Tryd.ntmps81
    go_wp2
    go_ret
    exact ⟨rfl, ⟨_, _, _, HH.out.mark true⟩, (Only.refl (fun k => k = rb) w).setCell (ad := ⟨rb, 1, none⟩) rfl _⟩
theorem bytes_calls {w0 w : World} {rb : Nat} {S : Option (List Int)} (h : Rs w0 w rb S) (n : Int) (h0 : 0 ≤ n) :
    Calls Tryd.prog 81 #[.pointer (some ⟨rb, 0, none⟩), .int .i64 n] w fun en w' => ∃ v, en = .returned v ∧ Row0 w0 v (bytS S n).1 ∧ Rs w0 w' rb (bytS S n).2 ∧ Only (fun k => k = rb) w w' := by
  cases S with
  | none =>
    obtain ⟨A, c, l, h⟩ := h
    refine (bytes_bad h n (fun q => by cases q)).mono ?_
    rintro en w' ⟨rfl, hr, ho⟩
    exact ⟨_, rfl, row0_nil _, hr, ho⟩
  | some l =>
    obtain ⟨A, c, h⟩ := h
    obtain ⟨m, rfl⟩ := Int.eq_ofNat_of_zero_le h0
    by_cases hn : m ≤ l.length
    · have e1 : bytS (some l) (m : Int) = (l.take m, some (l.drop m)) := by unfold bytS; rw [Option.bind_some]; unfold rbyt; rw [if_pos (by omega)]; simp
      rw [e1]
      exact bytes_ok h m hn
    · have e1 : bytS (some l) (m : Int) = ([], none) := by unfold bytS; rw [Option.bind_some]; unfold rbyt; rw [if_neg (by omega)]
      rw [e1]
      refine (bytes_bad h m (fun _ => by omega)).mono ?_
      rintro en w' ⟨rfl, hr, ho⟩
      exact ⟨_, rfl, row0_nil _, hr, ho⟩
end Go.Proofs.YtbcleckapamicaaDoor.Rf
namespace Go.Proofs.YtbcleckapamicaaDoor.Rf
open Go Go.RowKit Go.Proofs.YtbcleckapamicaaDoorW.PrintWords Go.Proofs.YtbcleckapamicaaDoorW.PrintLast Go.Proofs.YtbcleckapamicaaDoorW.PrintMore
open Go.Proofs.YtbcleckapamicaaDoor.Onl (Only)
open Go.Proofs.YtbcleckapamicaaDoor.Vn (vread vsize num)
open Go.Proofs.YtbcleckapamicaaDoor.Fd (rnum rbyt rtrm info5 upto num4)
set_option linter.unusedVariables false
set_option linter.unusedSimpArgs false
theorem sum4 {x1 x2 x3 : Int} (h1 : 0 ≤ x1 ∧ x1 ≤ 255) (h2 : 0 ≤ x2 ∧ x2 ≤ 255) (h3 : 0 ≤ x3 ∧ x3 ≤ 255) : wrap64 (wrap64 (wrap64 (65536 * wrap64 x1) + wrap64 (256 * wrap64 x2)) + wrap64 x3) = 65536 * x1 + 256 * x2 + x3 := by
  unfold wrap64; omega
set_option maxHeartbeats 2000000 in
set_option maxRecDepth 100000 in
theorem numbered_nil (w : World) (A : Option Addr) (c : Nat) : Calls Tryd.prog 106 #[.slice A 0 c] w fun en w' => en = .returned (.int .i64 0) ∧ w' = w := by
  go_enter Tryd.func106, Tryd.ntmps106
  go_wp2
  go_ret
  exact ⟨rfl, rfl⟩
set_option maxHeartbeats 2000000 in
set_option maxRecDepth 100000 in
theorem numbered_calls (w : World) (A : Option Addr) (c : Nat) (x0 x1 x2 x3 : Int) (hC : Kd.C (Kd.int .u8) w A 4 [x0, x1, x2, x3]) (h0 : 0 ≤ x0 ∧ x0 ≤ 255) (h1 : 0 ≤ x1 ∧ x1 ≤ 255) (h2 : 0 ≤ x2 ∧ x2 ≤ 255) (h3 : 0 ≤ x3 ∧ x3 ≤ 255)
    (r : Int) (hr : r = if 1 ≤ upto x0 x1 x2 x3 4 ∧ upto x0 x1 x2 x3 4 ≤ 65536 then upto x0 x1 x2 x3 4 else 0) :
    Calls Tryd.prog 106 #[.slice A 4 c] w fun en w' => en = .returned (.int .i64 r) ∧ Below w.heap.size w w' := by
  obtain ⟨ad, rfl, y0⟩ := Kd.at_int hC 0 (by omega) (by simp)
  obtain ⟨ad', e1, y1⟩ := Kd.at_int hC 1 (by omega) (by simp)
  injection e1 with e1; subst e1
  obtain ⟨ad', e1, y2⟩ := Kd.at_int hC 2 (by omega) (by simp)
  injection e1 with e1; subst e1
  obtain ⟨ad', e1, y3⟩ := Kd.at_int hC 3 (by omega) (by simp)
  injection e1 with e1; subst e1
  simp only [rd, List.getD_cons_zero, List.getD_cons_succ, Int.toNat_zero, Int.toNat_one, Int.reduceToNat] at y0 y1 y2 y3
  have hu : upto x0 x1 x2 x3 4 = 256 * (256 * (256 * x0 + x1) + x2) + x3 := rfl
  rw [hu] at hr
  have z0 : w.cell? ad = some (.int .u8 x0) := by simpa [Addr.add] using y0
  have z1 : w.cell? { block := ad.block, off := ad.off + 1 } = some (.int .u8 x1) := by simpa [Addr.add] using y1
  have z2 : w.cell? { block := ad.block, off := ad.off + 2 } = some (.int .u8 x2) := by simpa [Addr.add] using y2
  have z3 : w.cell? { block := ad.block, off := ad.off + 3 } = some (.int .u8 x3) := by simpa [Addr.add] using y3
  clear hu hC y0 y1 y2 y3
  by_cases q0 : x0 = 0
  · subst q0
    by_cases q1 : 1 < x1
    · have d1 : decide (1 < x1) = true := decide_eq_true q1
      obtain rfl : r = 0 := by rw [hr, if_neg (by omega)]
      clear hr h0 h1 h2 h3
      go_enter Tryd.func106, Tryd.ntmps106
      go_wp2
      go_ret
      exact ⟨rfl, Below.refl _ _⟩
    · have d1 : decide (1 < x1) = false := decide_eq_false q1
      have e4 := sum4 h1 h2 h3
      by_cases q2 : 65536 < 65536 * x1 + 256 * x2 + x3
      · have d2 : decide (65536 < 65536 * x1 + 256 * x2 + x3) = true := decide_eq_true q2
        obtain rfl : r = 0 := by rw [hr, if_neg (by omega)]
        clear hr h0 h1 h2 h3
        go_enter Tryd.func106, Tryd.ntmps106
        go_wp2
        go_quiet (fail)
        go_wp2
        go_ret
        exact ⟨rfl, pw_below_drewN (Below.refl _ _) nq⟩
      · have d2 : decide (65536 < 65536 * x1 + 256 * x2 + x3) = false := decide_eq_false q2
        have hr' : 65536 * x1 + 256 * x2 + x3 = r := by rw [hr]; split <;> omega
        rw [hr'] at e4 d2 q2
        clear hr h0 h1 h2 h3 hr'
        go_enter Tryd.func106, Tryd.ntmps106
        go_wp2
        go_quiet (fail)
        go_wp2
        go_ret
        exact ⟨by rw [← e4]; rfl, pw_below_drewN (Below.refl _ _) nq⟩
  · have q2 : (x0 != 0) = true := by simpa using q0
    obtain rfl : r = 0 := by rw [hr, if_neg (by omega)]
    clear hr h0 h1 h2 h3
    go_enter Tryd.func106, Tryd.ntmps106
    go_wp2
    go_ret
    exact ⟨rfl, Below.refl _ _⟩
def trmS (S : Option (List Int)) : Int × Option (List Int) := match S.bind rtrm with
  | some (n, r) => (n, some r)
  | none => (0, none)
set_option maxHeartbeats 2000000 in
set_option maxRecDepth 100000 in
theorem term_calls {w0 w : World} {rb : Nat} {S : Option (List Int)} (h : Rs w0 w rb S) :
    Calls Tryd.prog 84 #[.pointer (some ⟨rb, 0, none⟩)] w fun en w' => en = .returned (.int .i64 (trmS S).1) ∧ Rs w0 w' rb (trmS S).2 ∧ Only (fun k => k = rb) w w' := by
  have HB := bytes_calls h 4 (by omega)
  have hcase : (bytS S 4 = ([], none) ∧ trmS S = (0, none)) ∨ ∃ x0 x1 x2 x3 r, S = some (x0 :: x1 :: x2 :: x3 :: r) ∧ bytS S 4 = ([x0, x1, x2, x3], some r) := by
    cases S with
    | none => exact .inl ⟨rfl, rfl⟩
    | some l =>
      by_cases h4 : (4 : Int) ≤ (l.length : Int)
      · obtain ⟨x0, x1, x2, x3, r, rfl⟩ : ∃ x0 x1 x2 x3 r, l = x0 :: x1 :: x2 :: x3 :: r := by
          match l, h4 with
          | a :: b :: c :: d :: t, _ => exact ⟨a, b, c, d, t, rfl⟩
        exact .inr ⟨x0, x1, x2, x3, r, rfl, by unfold bytS; rw [Option.bind_some]; unfold rbyt; rw [if_pos h4]; rfl⟩
      · exact .inl ⟨by unfold bytS; rw [Option.bind_some]; unfold rbyt; rw [if_neg h4], by unfold trmS; rw [Option.bind_some]; unfold rtrm; rw [if_neg (fun q => h4 (by omega))]⟩
  rcases hcase with ⟨e1, e2⟩ | ⟨x0, x1, x2, x3, r, rfl, e1⟩
  · rw [e1] at HB
    rw [e2]
    have HBA := Aside0.mk HB
    clear HB h e1 e2
    go_enter Tryd.func84, Tryd.ntmps84
    go_wp2_with (first | (go_at_call 81; refine HBA.out.mono ?_; rintro e1 w1 ⟨v1, rfl, ⟨A1, c1, rfl, hC, hl1⟩, hr, ho⟩; obtain ⟨A2, c2, l2, hrb⟩ := hr; have c1_ := hrb.c1; have f1_ := hrb.f1; have HR := Aside0.mk hrb; have HO := Aside0.mk ho; clear ho hC hl1 hrb) | (go_at_call 106; refine (numbered_nil _ A1 c1).mono ?_; rintro e2 w2 ⟨rfl, rfl⟩))
    go_ret
    exact ⟨rfl, ⟨_, _, _, HR.out.mark true⟩, HO.out.setCell (ad := ⟨rb, 1, none⟩) rfl _⟩
  · rw [e1] at HB
    have hby := h.by_.1
    have D := Aside0.mk (show (0 ≤ x0 ∧ x0 ≤ 255) ∧ (0 ≤ x1 ∧ x1 ≤ 255) ∧ (0 ≤ x2 ∧ x2 ≤ 255) ∧ (0 ≤ x3 ∧ x3 ≤ 255) from ⟨hby _ (by simp), hby _ (by simp), hby _ (by simp), hby _ (by simp)⟩)
    have HBA := Aside0.mk HB
    obtain ⟨n, hn⟩ : ∃ n, n = if 1 ≤ upto x0 x1 x2 x3 4 ∧ upto x0 x1 x2 x3 4 ≤ 65536 then upto x0 x1 x2 x3 4 else 0 := ⟨_, rfl⟩
    have NB := Aside0.mk (fun (W : World) (A : Option Addr) (c : Nat) (hC : Kd.C (Kd.int .u8) W A 4 [x0, x1, x2, x3]) => numbered_calls W A c x0 x1 x2 x3 hC D.out.1 D.out.2.1 D.out.2.2.1 D.out.2.2.2 n hn)
    have er : trmS (some (x0 :: x1 :: x2 :: x3 :: r)) = if n = 0 then (0, none) else (n, some r) := by
      unfold trmS
      rw [Option.bind_some]
      unfold rtrm
      rw [show (x0 :: x1 :: x2 :: x3 :: r).take 4 = [x0, x1, x2, x3] from rfl, num4]
      by_cases q : 1 ≤ upto x0 x1 x2 x3 4 ∧ upto x0 x1 x2 x3 4 ≤ 65536
      · rw [if_pos q] at hn
        rw [if_pos ⟨by simp, q.1, q.2⟩, if_neg (by omega), hn]; rfl
      · rw [if_neg q] at hn
        rw [if_neg (fun h => q h.2), if_pos hn]
    rw [er]
    have B0 := Aside0.mk h.bl
    clear hn HB h hby e1 er
    by_cases q : n = 0
    · subst q
      rw [if_pos rfl]
      go_enter Tryd.func84, Tryd.ntmps84
      go_wp2_with (first | (go_at_call 81; refine HBA.out.mono ?_; rintro e1 w1 ⟨v1, rfl, ⟨A1, c1, rfl, hC, hl1⟩, hr, ho⟩; have HC := Aside0.mk (Kd.C_below hC hr.bl); have HO := Aside0.mk ho; have HR1 := Aside0.mk hr; clear ho hC hl1 hr) | (go_at_call 106; refine (NB.out _ A1 c1 HC.out).mono ?_; rintro e2 w2 ⟨rfl, hb2⟩; obtain ⟨A2, c2, hrb⟩ := (HR1.out.below hb2).some_; have c1_ := hrb.c1; have f1_ := hrb.f1; have HR := Aside0.mk hrb; have HB2 := Aside0.mk hb2; clear hb2 hrb))
      go_ret
      exact ⟨rfl, ⟨_, _, _, HR.out.mark true⟩, (HO.out.trans (Only.of_below HB2.out)).setCell (ad := ⟨rb, 1, none⟩) rfl _⟩
    · have q1 : (n == 0) = false := by simpa using q
      have q2 : decide (n = 0) = false := decide_eq_false q
      rw [if_neg q]
      go_enter Tryd.func84, Tryd.ntmps84
      go_wp2_with (first | (go_at_call 81; refine HBA.out.mono ?_; rintro e1 w1 ⟨v1, rfl, ⟨A1, c1, rfl, hC, hl1⟩, hr, ho⟩; have HC := Aside0.mk (Kd.C_below hC hr.bl); have HO := Aside0.mk ho; have HR1 := Aside0.mk hr; clear ho hC hl1 hr) | (go_at_call 106; refine (NB.out _ A1 c1 HC.out).mono ?_; rintro e2 w2 ⟨rfl, hb2⟩; obtain ⟨A2, c2, hrb⟩ := (HR1.out.below hb2).some_; have c1_ := hrb.c1; have f1_ := hrb.f1; have HR := Aside0.mk hrb; have HB2 := Aside0.mk hb2; clear hb2 hrb))
      go_ret
      exact ⟨rfl, ⟨_, _, HR.out.mark false⟩, (HO.out.trans (Only.of_below HB2.out)).setCell (ad := ⟨rb, 1, none⟩) rfl _⟩
end Go.Proofs.YtbcleckapamicaaDoor.Rf
