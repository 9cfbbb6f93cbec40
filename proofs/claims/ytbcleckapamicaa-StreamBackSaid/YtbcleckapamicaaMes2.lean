/- stream.Messages: its range over messages' closure, opened by the statement's own law. -/
import Derived.Test.YtbcleckapamicaaMes1
import Derived.Test.YtbcleckapamicaaRng0
import Derived.Maps.OwnIn
namespace Go.Proofs.Ytbcleckapamicaa.Mes
open Go Go.RowKit Go.Shelf Go.Proofs.YtbcleckapamicaaW.PrintWords Go.Proofs.YtbcleckapamicaaW.PrintLast Go.Proofs.YtbcleckapamicaaW.PrintMore
attribute [local go_sem] Oper.semAt_some
open Go.Proofs.Ytbcleckapamicaa.Stm (Bytes bytes_rd mlen info5 Only)
open Go.Proofs.Ytbcleckapamicaa.Rng
set_option linter.unusedVariables false
set_option linter.unusedSimpArgs false

abbrev KR : Kd (List Int) := Kd.slice 5 (Kd.int .u8)
abbrev KS := Kd.S KR 44
theorem info44 : (Try.prog.info? 44).map (fun i => (i.zero, i.size, i.bytes)) = some (some (.slice none 0 0), 1, 24) := by kernel_rfl

/-- append(v, x) inside a fence, x's cells just laid. -/
theorem R_append_in {F : Fence} {nF : Nat} {P : Program} {ops : Array Oper} {rest : List Oper} {o : Oper} {a : Act} {Q : Exit → Act → World → Prop} {α : Type} (d : Kd α) {W : World} (base : Nat) (hgd : o.guard = none) (s x : Operand) (t e : TypeId) (z : Value) (bytes : Nat)
    (ho : o.op = .call { callee := .builtin .append, args := #[s, x], argTypes := #[t, t] })
    (ht : P.underlying t = some (.slice e)) (hinfo : (P.info? e).map (fun i => (i.zero, i.size, i.bytes)) = some (some z, d.sz, bytes)) (hz : z.cells.size = d.sz) (hs0 : 0 < d.sz) (hb0 : 0 < bytes)
    (v : Value) (xs : List α) (p : α) (cs : List Value) (ok okp : Nat → Prop) (hs : a.eval s = v) (hx : a.eval x = .slice (some ⟨W.heap.size, 0, none⟩) 1 1) (hp : d.M W base okp p cs) (hokp : ∀ k, okp k → ok k ∧ some k ≠ v.ownBlock) (hfresh : ∀ k, W.heap.size ≤ k → ok k)
    (HO : d.R e W base ok v xs) (hbase : base ≤ W.heap.size) (hl : (xs.length + 1) * bytes ≤ 140737488355328)
    (h : ∀ v1 w1, d.R e w1 base ok v1 (xs ++ [p]) → W.grownBy w1 v.ownBlock → wpListIn F nF P ops Q rest (a.put o.dst v1) w1) :
    wpListIn F nF P ops Q (o :: rest) a (W.alloc (.cells cs.toArray e)) := by
  obtain ⟨h0, inner, hown, hr⟩ := HO
  have hys := d.K_len (d.K_of_M hp)
  have h1 := d.K_one (d.K_of_M hp)
  obtain ⟨i0, hi, hzz⟩ := Option.map_eq_some_iff.1 hinfo
  simp only [Prod.mk.injEq] at hzz
  obtain ⟨hz0, hz1, hz2⟩ := hzz
  have hlen : xs.length + 1 ≤ 140737488355328 := Nat.le_trans (Nat.le_mul_of_pos_right _ hb0) hl
  refine wpListIn_append_own_at (W.alloc (.cells cs.toArray e)) hgd s x t ho base e i0 z d.sz bytes ht hi hz0 hz1 hz2 hz hs0 v xs.length inner hs (hown.alloc _) ⟨W.heap.size, 0, none⟩ 1 1 cs hx (by rw [hys]; simp)
    (by simpa using World.news_of_block (cs := cs.toArray) (t := e) (fr := (0, 0)) (heap_alloc_new W (.cells cs.toArray e))) h1 (by simp only [maxLen]; omega) hl (by simp; omega) ?_
  intro v1 w1 hown1 hg1 _ hat
  have hg : W.grownBy w1 v.ownBlock := World.grownBy.trans (World.grownBy_alloc W _ _) hg1
  refine h v1 w1 (Kd.R_appended h0 hr hp hokp hfresh hown1 hg ?_) hg
  rcases hat with hat | hat
  · exact .inl hat
  · exact .inr ⟨_, hat, by simp⟩

/-- .. where no two elements lead to one block. -/
theorem S_append_in {F : Fence} {nF : Nat} {P : Program} {ops : Array Oper} {rest : List Oper} {o : Oper} {a : Act} {Q : Exit → Act → World → Prop} {α : Type} (d : Kd α) {W : World} (base : Nat) (hgd : o.guard = none) (s x : Operand) (t e : TypeId) (z : Value) (bytes : Nat)
    (ho : o.op = .call { callee := .builtin .append, args := #[s, x], argTypes := #[t, t] })
    (ht : P.underlying t = some (.slice e)) (hinfo : (P.info? e).map (fun i => (i.zero, i.size, i.bytes)) = some (some z, d.sz, bytes)) (hz : z.cells.size = d.sz) (hs0 : 0 < d.sz) (hb0 : 0 < bytes)
    (v : Value) (xs : List α) (p : α) (cs : List Value) (ok okp : Nat → Prop) (hs : a.eval s = v) (hx : a.eval x = .slice (some ⟨W.heap.size, 0, none⟩) 1 1) (hp : d.M W base okp p cs) (hokp : ∀ k, okp k → ok k ∧ some k ≠ v.ownBlock) (hfresh : ∀ k, W.heap.size ≤ k → ok k)
    (HO : Kd.S d e W base (fun k => ok k ∧ ¬ okp k) v xs) (hbase : base ≤ W.heap.size) (hl : (xs.length + 1) * bytes ≤ 140737488355328)
    (h : ∀ v1 w1, Kd.S d e w1 base ok v1 (xs ++ [p]) → W.grownBy w1 v.ownBlock → wpListIn F nF P ops Q rest (a.put o.dst v1) w1) :
    wpListIn F nF P ops Q (o :: rest) a (W.alloc (.cells cs.toArray e)) := by
  obtain ⟨f, hf, hR⟩ := Kd.S_tag HO xs.length okp (fun _ hk h2 => h2.2 hk)
  refine R_append_in (Kd.tag f d) base hgd s x t e z bytes ho ht hinfo hz hs0 hb0 v xs.zipIdx (p, xs.length) cs ok okp hs hx (d.M_mono (fun k hk => ⟨hk, hf k hk⟩) hp) hokp hfresh (Kd.R_mono hR (fun _ hk => hk.1)) hbase (by rw [List.length_zipIdx]; exact hl) ?_
  intro v1 w1 hr
  rw [← Kd.zip_snoc] at hr
  exact h v1 w1 ⟨f, hr⟩

/-- What stands while Messages ranges. -/
structure Om (w : World) (H1 H2 D E : Nat) (v : Value) (ms : List (List Int)) (W : World) : Prop where
  bl : Below w.heap.size w W
  r0 : Boxed W w.heap.size 60 (.slice none 0 0)
  r1 : Boxed W H1 4 (.bool false)
  o : Boxed W H2 60 v
  R : KS W E (fun _ => True) v ms
  df : W.heap[D]? = some (.deferred (some []))
  sz : E ≤ W.heap.size
theorem boxed_only {p : Nat → Prop} {W W' : World} {B t : Nat} {u : Value} (h : Boxed W B t u) (ho : Only p W W') (hp : ¬ p B) : Boxed W' B t u := (ho.block B h.lt hp).trans h
theorem R_only {α : Type} {d : Kd α} {e base : Nat} {p : Nat → Prop} {W W' : World} {v : Value} {xs : List α} (h : d.R e W base (fun _ => True) v xs) (ho : Only p W W') (hp : ∀ k, p k → k < base) : d.R e W' base (fun _ => True) v xs :=
  Kd.R_mono (Kd.R_move (Kd.R_bound h) (fun k hk => ho.block k hk.2.2.1 (fun q => by have := hp k q; have := hk.2.1; omega))) (fun _ _ => trivial)
theorem S_only {α : Type} {d : Kd α} {e base : Nat} {p : Nat → Prop} {W W' : World} {v : Value} {xs : List α} (h : Kd.S d e W base (fun _ => True) v xs) (ho : Only p W W') (hp : ∀ k, p k → k < base) : Kd.S d e W' base (fun _ => True) v xs :=
  Kd.S_mono (Kd.S_move (Kd.S_bound h) (fun k hk => ho.block k hk.2.2.1 (fun q => by have := hp k q; have := hk.2.1; omega))) (fun _ _ => trivial)
/-- What is held, apart from what is new since. -/
theorem S_old {α : Type} {d : Kd α} {e base : Nat} {p : Nat → Prop} {W W' : World} {v : Value} {xs : List α} (h : Kd.S d e W base (fun _ => True) v xs) (ho : Only p W W') (hp : ∀ k, p k → k < base) : Kd.S d e W' base (fun k => True ∧ ¬ (W.heap.size ≤ k)) v xs :=
  Kd.S_mono (Kd.S_move (Kd.S_bound h) (fun k hk => ho.block k hk.2.2.1 (fun q => by have := hp k q; have := hk.2.1; omega))) (fun _ hk => ⟨trivial, by have := hk.2.2.1; omega⟩)
theorem Om.only {w : World} {H1 H2 D E : Nat} {v : Value} {ms : List (List Int)} {W W' : World} (h : Om w H1 H2 D E v ms W) (lay : w.heap.size < H1 ∧ H1 < H2 ∧ H2 < D ∧ D < E) {p : Nat → Prop} (ho : Only p W W') (hp : ∀ k, p k → H2 < k ∧ k ≠ D ∧ k < E) : Om w H1 H2 D E v ms W' := by
  have hn : ∀ k, k ≤ H2 → ¬ p k := fun k hk q => by have := hp k q; omega
  exact ⟨h.bl.trans (ho.below h.bl.size (fun k q => by have := hp k q; omega)), boxed_only h.r0 ho (hn _ (by omega)), boxed_only h.r1 ho (hn _ (by omega)), boxed_only h.o ho (hn _ (by omega)),
    S_only h.R ho (fun k q => (hp k q).2.2), (ho.block D (by have := h.sz; omega) (fun q => (hp D q).2.1 rfl)).trans h.df, Nat.le_trans h.sz ho.size⟩
theorem only_putObj (W : World) (l : Nat) (o : Obj) : Only (fun k => k = l) W (W.putObj l o) :=
  ⟨rfl, rfl, rfl, by simp, fun k _ hk => World.putObj_heap_other hk⟩
theorem only_setCell (W : World) (b : Nat) (v : Value) : Only (fun k => k = b) W (W.setCell ⟨b, 0, none⟩ v) := (Only.refl (fun k => k = b) W).setCell (ad := ⟨b, 0, none⟩) rfl v

/-- The round that keeps a message: what stands behind the store. -/
theorem Om.grown {w : World} {H1 H2 D E : Nat} {v v1 : Value} {ms : List (List Int)} {m : List Int} {W w1 : World} (h : Om w H1 H2 D E v ms W) (lay : w.heap.size < H1 ∧ H1 < H2 ∧ H2 < D ∧ D < E) (hR : KS w1 E (fun _ => True) v1 (ms ++ [m])) (hg : W.grownBy w1 v.ownBlock) :
    Boxed w1 H2 60 v ∧ Om w H1 H2 D E v1 (ms ++ [m]) (w1.setCell ⟨H2, 0, none⟩ v1) ∧ ∀ k, k < E → k ≠ H2 → (w1.setCell ⟨H2, 0, none⟩ v1).heap[k]? = W.heap[k]? := by
  have hne : ∀ k, k < E → some k ≠ v.ownBlock := fun k hk e => by have := Kd.S_base h.R k e.symm; omega
  have ho : Only (fun k => E ≤ k) W w1 := (Only.refl _ W).grown hg (fun k e => .inl (Kd.S_base h.R k e))
  have hb1 : Boxed w1 H2 60 v := boxed_only h.o ho (by omega)
  have hs := only_setCell w1 H2 v1
  have hn : ∀ k, k < E → k ≠ H2 → (w1.setCell ⟨H2, 0, none⟩ v1).heap[k]? = W.heap[k]? := fun k hk hk2 =>
    (hs.block k (by have := ho.size; have := h.sz; omega) hk2).trans (ho.block k (by have := h.sz; omega) (by omega))
  refine ⟨hb1, ⟨h.bl.trans ((ho.below h.bl.size (fun k q => by omega)).setCell (by show w.heap.size ≤ H2; omega) _), ?_, ?_, hb1.set v1, S_only hR hs (fun k q => by omega), ?_, Nat.le_trans h.sz (Nat.le_trans ho.size hs.size)⟩, hn⟩
  · exact (hn _ (by omega) (by omega)).trans h.r0
  · exact (hn _ (by omega) (by omega)).trans h.r1
  · exact (hn _ (by omega) (by omega)).trans h.df
end Go.Proofs.Ytbcleckapamicaa.Mes
