/- Two rows of the call's own, each appended to once, in whatever order their literals are laid. -/
import Derived.Test.YtbcleckapamicaaRst0
namespace Go.Proofs.Ytbcleckapamicaa.Rst
open Go Go.RowKit Go.Proofs.YtbcleckapamicaaW.PrintWords Go.Proofs.YtbcleckapamicaaW.PrintLast Go.Proofs.YtbcleckapamicaaW.PrintMore
open Go.Proofs.Ytbcleckapamicaa.Stm (Bytes Only)
set_option linter.unusedVariables false
set_option linter.unusedSimpArgs false

theorem info3 : (Try.prog.info? 3).map (fun i => (i.zero, i.size, i.bytes)) = some (some (.int .i64 0), 1, 8) := by kernel_rfl
theorem Only.frozen {p : Nat → Prop} {w w' : World} (h : Only p w w') {ad : Addr} (hl : ad.block < w.heap.size) (hn : ¬ p ad.block) : w'.frozen? ad = w.frozen? ad := World.frozen?_of_block (w := w) (h.block _ hl hn)
def Grow (w : World) (v v' : Value) : Prop := ∀ k, v'.ownBlock = some k → v.ownBlock = some k ∨ w.heap.size ≤ k
def own2 (va vb : Value) (k : Nat) : Prop := va.ownBlock = some k ∨ vb.ownBlock = some k
structure Bt (wr W : World) (base : Nat) (va0 vb0 va vb : Value) (xs ys : List Int) : Prop where
  oa : (Kd.int .i64).R 3 W base (fun _ => True) va xs
  ob : (Kd.int .u8).R 5 W base (fun _ => True) vb ys
  on : Only (own2 va0 vb0) wr W
  ga : Grow wr va0 va
  gb : Grow wr vb0 vb
  ab : ∀ k, va.ownBlock = some k → vb.ownBlock ≠ some k
  la : ∀ k, own2 va0 vb0 k → k < wr.heap.size ∧ base ≤ k
  bz : base ≤ wr.heap.size
theorem Bt.start {w : World} {base : Nat} {va vb : Value} {xs ys : List Int} (oa : (Kd.int .i64).R 3 w base (fun _ => True) va xs) (ob : (Kd.int .u8).R 5 w base (fun _ => True) vb ys) (ab : ∀ k, va.ownBlock = some k → vb.ownBlock ≠ some k) (bz : base ≤ w.heap.size) : Bt w w base va vb va vb xs ys :=
  ⟨oa, ob, Only.refl _ _, fun _ h => Or.inl h, fun _ h => Or.inl h, ab, fun k hk => hk.elim (fun h => ⟨row_lt oa k h, row_ge oa k h⟩) (fun h => ⟨row_lt ob k h, row_ge ob k h⟩), bz⟩
variable {wr W w1 : World} {base : Nat} {va0 vb0 va vb v1 : Value} {xs ys zs : List Int}
theorem Bt.alloc (h : Bt wr W base va0 vb0 va vb xs ys) (o : Obj) : Bt wr (W.alloc o) base va0 vb0 va vb xs ys :=
  ⟨Kd.R_alloc h.oa o, Kd.R_alloc h.ob o, h.on.alloc o, h.ga, h.gb, h.ab, h.la, h.bz⟩
theorem Bt.below (h : Bt wr W base va0 vb0 va vb xs ys) : Below base wr W := h.on.below h.bz (fun k hk => (h.la k hk).2)
theorem Bt.appA (h : Bt wr W base va0 vb0 va0 vb xs ys) (hr : (Kd.int .i64).R 3 w1 base (fun _ => True) v1 zs) (hg : W.grownBy w1 va0.ownBlock) (hat : v1.ownBlock = va0.ownBlock ∨ ∃ b, v1.ownBlock = some b ∧ W.heap.size ≤ b) : Bt wr w1 base va0 vb0 v1 vb zs ys := by
  refine ⟨hr, row_keep h.ob (fun k hk => hg.block k (row_lt h.ob k hk) (fun e => h.ab k e.symm hk)), h.on.grown hg (fun k e => Or.inl (Or.inl e)), ?_, h.gb, ?_, h.la, h.bz⟩
  · intro k hk
    rcases hat with e | ⟨b, e, hb⟩
    · exact Or.inl (e ▸ hk)
    · rw [hk] at e
      injection e with e
      have := h.on.size
      exact Or.inr (by omega)
  · intro k hk hk2
    rcases hat with e | ⟨b, e, hb⟩
    · exact h.ab k (e ▸ hk) hk2
    · rw [hk] at e
      injection e with e
      have := row_lt h.ob k hk2
      omega
theorem Bt.appB (h : Bt wr W base va0 vb0 va vb0 xs ys) (hr : (Kd.int .u8).R 5 w1 base (fun _ => True) v1 zs) (hg : W.grownBy w1 vb0.ownBlock) (hat : v1.ownBlock = vb0.ownBlock ∨ ∃ b, v1.ownBlock = some b ∧ W.heap.size ≤ b) : Bt wr w1 base va0 vb0 va v1 xs zs := by
  refine ⟨row_keep h.oa (fun k hk => hg.block k (row_lt h.oa k hk) (fun e => h.ab k hk e.symm)), hr, h.on.grown hg (fun k e => Or.inl (Or.inr e)), h.ga, ?_, ?_, h.la, h.bz⟩
  · intro k hk
    rcases hat with e | ⟨b, e, hb⟩
    · exact Or.inl (e ▸ hk)
    · rw [hk] at e
      injection e with e
      have := h.on.size
      exact Or.inr (by omega)
  · intro k hk hk2
    rcases hat with e | ⟨b, e, hb⟩
    · exact h.ab k hk (e ▸ hk2)
    · rw [hk2] at e
      injection e with e
      have := row_lt h.oa k hk
      omega
/-- A literal of one number (block g, laid since wr). -/
structure Lt (wr W : World) (q : IntKind) (g : Nat) (x : Int) : Prop where
  c : Kd.C (Kd.int q) W (some ⟨g, 0, none⟩) 1 [x]
  lo : wr.heap.size ≤ g
  hi : g < W.heap.size
theorem Lt.new (q : IntKind) (e : TypeId) (x : Int) (hw : wr.heap.size ≤ W.heap.size) : Lt wr (W.alloc (.cells #[.int q x] e)) q W.heap.size x := by
  refine ⟨⟨rfl, by decide, fun _ => ⟨_, rfl, fun j p hj => ⟨[.int q p], rfl, rfl, fun i u hu => ?_⟩⟩⟩, hw, by simp⟩
  cases j with
  | succ j => simp at hj
  | zero =>
    injection hj with hj
    subst hj
    cases i with
    | succ i => simp at hu
    | zero =>
      injection hu with hu
      subst hu
      have e0 : (Addr.add ⟨W.heap.size, 0, none⟩ (0 * (Kd.int q).sz + 0) : Addr) = ⟨W.heap.size, 0, none⟩ := by simp [Addr.add]
      rw [e0, World.cell?_alloc_at _ _ _ _ rfl]
      rfl
theorem Lt.alloc {q : IntKind} {g : Nat} {x : Int} (h : Lt wr W q g x) (o : Obj) : Lt wr (W.alloc o) q g x := ⟨Kd.C_alloc h.c o, h.lo, by have := h.hi; simp; omega⟩
theorem Lt.app {q : IntKind} {g : Nat} {x : Int} {row : Option Nat} (h : Lt wr W q g x) (hg : W.grownBy w1 row) (hr : ∀ k, row = some k → k < wr.heap.size) : Lt wr w1 q g x := by
  refine ⟨Only.reads (xs := [x]) (p := fun k => row = some k) ((Only.refl (fun k => row = some k) W).grown hg (fun k e => Or.inl e)) h.c (fun ad e => ?_), h.lo, Nat.lt_of_lt_of_le h.hi hg.size⟩
  injection e with e
  subst e
  intro e
  have := hr _ e
  have := h.lo
  simp only [] at *
  omega
/-- The struct's cells, the rows being told anew. -/
theorem Sr.close {rb : Nat} {t : Int} {ks bs ks' bs' : List Int} (hS : Sr wr base rb t ks bs va0 vb0) (h : Bt wr W base va0 vb0 va vb ks' bs') (hl : ks'.length = bs'.length) (hB : Bytes bs') : Sr ((W.setCell ⟨rb, 1, none⟩ va).setCell ⟨rb, 2, none⟩ vb) base rb t ks' bs' va vb := by
  have hrb : ¬ own2 va0 vb0 rb := fun h => h.elim hS.na hS.nb
  have c0 := h.on.cell (ad := ⟨rb, 0, none⟩) hrb hS.c0
  have c1 := h.on.cell (ad := ⟨rb, 1, none⟩) hrb hS.c1
  have c2 := h.on.cell (ad := ⟨rb, 2, none⟩) hrb hS.c2
  have f0 := (Only.frozen h.on (ad := ⟨rb, 0, none⟩) hS.lt hrb).trans hS.f0
  have f1 := (Only.frozen h.on (ad := ⟨rb, 1, none⟩) hS.lt hrb).trans hS.f1
  have f2 := (Only.frozen h.on (ad := ⟨rb, 2, none⟩) hS.lt hrb).trans hS.f2
  have na : va.ownBlock ≠ some rb := fun e => by
    rcases h.ga rb e with q | q
    · exact hS.na q
    · have := hS.lt
      omega
  have nb : vb.ownBlock ≠ some rb := fun e => by
    rcases h.gb rb e with q | q
    · exact hS.nb q
    · have := hS.lt
      omega
  have c2' : (W.setCell ⟨rb, 1, none⟩ va).cell? ⟨rb, 2, none⟩ = some vb0 := by rw [World.cell?_setCell_other _ _ _ _ (by simp)]; exact c2
  refine ⟨?_, ?_, World.cell?_setCell_same _ _ _ c2', ?_, ?_, ?_, ?_, ?_, na, nb, h.ab, hS.lo, ?_, hl, hB⟩
  · rw [World.cell?_setCell_other _ _ _ _ (by simp), World.cell?_setCell_other _ _ _ _ (by simp)]; exact c0
  · rw [World.cell?_setCell_other _ _ _ _ (by simp)]; exact World.cell?_setCell_same _ _ _ c1
  · rw [World.frozen?_setCell, World.frozen?_setCell]; exact f0
  · rw [World.frozen?_setCell, World.frozen?_setCell]; exact f1
  · rw [World.frozen?_setCell, World.frozen?_setCell]; exact f2
  · exact row_keep h.oa (fun k hk => by
      have hne : k ≠ rb := fun e => na (by rw [← e]; exact hk)
      exact (Below.heap_setCell (W.setCell ⟨rb, 1, none⟩ va) ⟨rb, 2, none⟩ vb k hne).trans (Below.heap_setCell W ⟨rb, 1, none⟩ va k hne))
  · exact row_keep h.ob (fun k hk => by
      have hne : k ≠ rb := fun e => nb (by rw [← e]; exact hk)
      exact (Below.heap_setCell (W.setCell ⟨rb, 1, none⟩ va) ⟨rb, 2, none⟩ vb k hne).trans (Below.heap_setCell W ⟨rb, 1, none⟩ va k hne))
  · have := h.on.size
    have := h.bz
    simp [World.setCell]
    omega
end Go.Proofs.Ytbcleckapamicaa.Rst
