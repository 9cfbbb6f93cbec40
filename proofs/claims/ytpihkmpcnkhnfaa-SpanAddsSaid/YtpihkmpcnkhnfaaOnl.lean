/- What stands still while some blocks turn. -/
import Derived.Test.YtpihkmpcnkhnfaaProg
import Derived.Test.YtpihkmpcnkhnfaaWMore
import Derived.RangeFuncBox
import Derived.Maps.OwnSet
namespace Go.Proofs.Ytpihkmpcnkhnfaa.Onl
open Go Go.RowKit Go.Proofs.YtpihkmpcnkhnfaaW.PrintWords
set_option linter.unusedVariables false

/-- w' is w, but for blocks of p and for new ones. -/
structure Only (p : Nat → Prop) (w w' : World) : Prop where
  os : w'.os = w.os
  tape : w'.tape = w.tape
  output : w'.output = w.output
  size : w.heap.size ≤ w'.heap.size
  block : ∀ k, k < w.heap.size → ¬ p k → w'.heap[k]? = w.heap[k]?
theorem Only.refl (p : Nat → Prop) (w : World) : Only p w w := ⟨rfl, rfl, rfl, Nat.le_refl _, fun _ _ _ => rfl⟩
theorem Only.trans {p : Nat → Prop} {a b c : World} (h : Only p a b) (k : Only p b c) : Only p a c :=
  ⟨k.os.trans h.os, k.tape.trans h.tape, k.output.trans h.output, Nat.le_trans h.size k.size, fun i hi hp => (k.block i (Nat.lt_of_lt_of_le hi h.size) hp).trans (h.block i hi hp)⟩
theorem Only.imp {p q : Nat → Prop} {w w' : World} (h : Only p w w') (hq : ∀ k, k < w.heap.size → p k → q k) : Only q w w' :=
  ⟨h.os, h.tape, h.output, h.size, fun k hk hn => h.block k hk (fun hp => hn (hq k hk hp))⟩
theorem Only.alloc {p : Nat → Prop} {a w : World} (h : Only p a w) (o : Obj) : Only p a (w.alloc o) :=
  ⟨h.os, h.tape, h.output, Nat.le_trans h.size (by simp), fun k hk hp => (Below.heap_alloc _ _ _ (Nat.lt_of_lt_of_le hk h.size)).trans (h.block k hk hp)⟩
theorem Only.drew {p : Nat → Prop} {a w : World} (h : Only p a w) : Only p a w.drew := ⟨h.os, h.tape, h.output, h.size, h.block⟩
theorem Only.drewN {p : Nat → Prop} {a w : World} (h : Only p a w) (n : Nat) : Only p a (w.drewN n) := ⟨h.os, h.tape, h.output, h.size, h.block⟩
theorem Only.setCell {p : Nat → Prop} {a w : World} (h : Only p a w) {ad : Addr} (hp : p ad.block) (u : Value) : Only p a (w.setCell ad u) :=
  ⟨h.os, h.tape, h.output, Nat.le_trans h.size (by simp [World.setCell]), fun k hk hn => (Below.heap_setCell _ _ _ _ (fun e => hn (by rw [e]; exact hp))).trans (h.block k hk hn)⟩
/-- A store into a block that is new. -/
theorem Only.setNew {p : Nat → Prop} {a w : World} (h : Only p a w) {ad : Addr} (hp : a.heap.size ≤ ad.block) (u : Value) : Only p a (w.setCell ad u) :=
  ⟨h.os, h.tape, h.output, Nat.le_trans h.size (by simp [World.setCell]), fun k hk hn => (Below.heap_setCell _ _ _ _ (by omega)).trans (h.block k hk hn)⟩
theorem Only.grown {p : Nat → Prop} {a w w' : World} {row : Option Nat} (h : Only p a w) (hg : w.grownBy w' row) (hr : ∀ k, row = some k → p k ∨ a.heap.size ≤ k) : Only p a w' :=
  ⟨hg.os.trans h.os, hg.tape.trans h.tape, hg.output.trans h.output, Nat.le_trans h.size hg.size, fun k hk hn => (hg.block k (Nat.lt_of_lt_of_le hk h.size) (fun e => (hr k e.symm).elim hn (by omega))).trans (h.block k hk hn)⟩
theorem Only.turned {p : Nat → Prop} {a w w' : World} {b : Nat} (h : Only p a w) (hg : w.mapTurned w' b) (hr : p b ∨ a.heap.size ≤ b) : Only p a w' := h.grown hg.grown (fun k e => by injection e with e; subst e; exact hr)
theorem Only.below {p : Nat → Prop} {w w' : World} {B : Nat} (h : Only p w w') (hB : B ≤ w.heap.size) (hp : ∀ k, p k → B ≤ k) : Below B w w' :=
  ⟨h.os, h.tape, h.output, h.size, fun k hk => h.block k (by omega) (fun e => by have := hp k e; omega)⟩
theorem Only.of_below {p : Nat → Prop} {w w' : World} (h : Below w.heap.size w w') : Only p w w' := ⟨h.os, h.tape, h.output, h.size, fun k hk _ => h.block k hk⟩
theorem Only.cell {p : Nat → Prop} {w w' : World} (h : Only p w w') {ad : Addr} (hn : ¬ p ad.block) {v : Value} (hc : w.cell? ad = some v) : w'.cell? ad = some v := by
  have hlt : ad.block < w.heap.size := World.block_lt_of_cell? w ad hc
  exact (World.cell?_of_block (h.block _ hlt hn)).trans hc
/-- A row of numbers is read as it was. -/
theorem Only.reads {p : Nat → Prop} {w w' : World} (h : Only p w w') {k : IntKind} {A : Option Addr} {xs : List Int} (hC : (Kd.int k).C w A xs.length xs) (hn : ∀ ad, A = some ad → ¬ p ad.block) : (Kd.int k).C w' A xs.length xs := by
  refine ⟨hC.1, hC.2.1, fun hl => ?_⟩
  obtain ⟨ad, e, hc⟩ := hC.2.2 hl
  refine ⟨ad, e, fun j q hj => ?_⟩
  obtain ⟨c, h1, h2, h3⟩ := hc j q hj
  exact ⟨c, h1, h2, fun i u hu => h.cell (ad := ad.add (j * (Kd.int k).sz + i)) (by have := hn ad e; unfold Addr.add; split <;> exact this) (h3 i u hu)⟩
end Go.Proofs.Ytpihkmpcnkhnfaa.Onl
