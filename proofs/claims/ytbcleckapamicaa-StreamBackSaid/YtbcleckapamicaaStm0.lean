/- A map from int to byte, told as a function of its keys; the operations on it at the walk; what stands still while blocks of a call's own turn. -/
import Derived.Test.YtbcleckapamicaaProg
import Derived.Test.YtbcleckapamicaaWMore
import Derived.Maps.OwnSet
import Derived.Maps.OwnIn
namespace Go.Proofs.Ytbcleckapamicaa.Stm
open Go Go.RowKit Go.Maps Go.Proofs.YtbcleckapamicaaW.PrintWords
set_option linter.unusedVariables false
set_option linter.unusedSimpArgs false

theorem lawK : Keyed Try.prog 3 := int_keyed Try.underlying3
theorem zeroE (w : World) : (zeroValue 5).run Try.prog w = .ok (.int .u8 0) w := by kernel_rfl
theorem wf0 : (Lit.int .u8 0).wf = true := by decide

def Tells (D : DataW Unit) (F : Int → Option Int) : Prop :=
  ∀ k, (Lit.int .i64 k).wf = true → Maps.has D (.int .i64 k) = (F k).isSome ∧ D.atKey (.int .i64 k) (.lit (.int .u8 0)) = .lit (.int .u8 ((F k).getD 0))

/-- The map that the field leads to (none: a nil map) holds what F tells. -/
def Mq (w : World) (m : Option Nat) (n : Nat) (F : Int → Option Int) : Prop :=
  match m with
  | none => ∀ k, (Lit.int .i64 k).wf = true → F k = none
  | some b => ∃ D : DataW Unit, w.ownsMap Try.prog 3 (plainElem Try.prog 5) b n D ∧ Tells D F

theorem isKey {k : Int} (h : (Lit.int .i64 k).wf = true) : WideAt.IsKeyLit (.int .i64 k) := lawK.key (keyOf_int_mk Try.underlying3 h)

theorem Tells.empty : Tells (.map []) (fun _ => none) := fun k _ => ⟨rfl, rfl⟩
theorem Tells.put {D : DataW Unit} {F : Int → Option Int} (h : Tells D F) (hm : IsMap D) {k : Int} (hk : (Lit.int .i64 k).wf = true) (c : Int) : Tells (D.put (.int .i64 k) (.lit (.int .u8 c))) (fun j => if j = k then some c else F j) := by
  intro j hj
  by_cases e : j = k
  · subst e
    simp only [if_pos]
    exact ⟨has_put_same hm (isKey hk) _, atKey_put_same hm (isKey hk) _ _⟩
  · have hne : (Lit.int .i64 j) ≠ (Lit.int .i64 k) := fun e' => e (by injection e')
    simp only [if_neg e]
    rw [has_put_other hne, atKey_put_other hne]
    exact h j hj
theorem Tells.del {D : DataW Unit} {F : Int → Option Int} (h : Tells D F) (k : Int) : Tells (D.del (.int .i64 k)) (fun j => if j = k then none else F j) := by
  intro j hj
  by_cases e : j = k
  · subst e
    simp only [if_pos]
    exact ⟨has_del_same, atKey_del_same _⟩
  · have hne : (Lit.int .i64 j) ≠ (Lit.int .i64 k) := fun e' => e (by injection e')
    simp only [if_neg e]
    rw [has_del_other hne, atKey_del_other hne]
    exact h j hj

theorem Mq.lt {w : World} {b n : Nat} {F : Int → Option Int} (h : Mq w (some b) n F) : b < w.heap.size := by obtain ⟨D, h, _⟩ := h; exact h.lt
theorem Mq.mono {w : World} {m : Option Nat} {n n' : Nat} {F : Int → Option Int} (h : Mq w m n F) (hn : n ≤ n') : Mq w m n' F := by
  cases m with
  | none => exact h
  | some b => obtain ⟨D, h, h'⟩ := h; exact ⟨D, h.mono hn, h'⟩
theorem Mq.move {w w' : World} {m : Option Nat} {n : Nat} {F : Int → Option Int} (h : Mq w m n F) (hm : ∀ b, m = some b → w'.heap[b]? = w.heap[b]?) : Mq w' m n F := by
  cases m with
  | none => exact h
  | some b =>
    obtain ⟨D, ⟨es, clock, hb, r⟩, h'⟩ := h
    exact ⟨D, ⟨es, clock, (hm b rfl).trans hb, r⟩, h'⟩
theorem Mq.ne {w : World} {b n : Nat} {F : Int → Option Int} (h : Mq w (some b) n F) {ad : Addr} {v : Value} (hc : w.cell? ad = some v) : b ≠ ad.block := by
  obtain ⟨D, ⟨es, clock, hb, r⟩, h'⟩ := h
  intro e
  subst e
  simp [World.cell?, hb] at hc
theorem Mq.made (w : World) : Mq (w.alloc (.map #[] 0)) (some w.heap.size) 0 (fun _ => none) := ⟨_, World.ownsMap_made _ _ _ _, Tells.empty⟩
theorem Mq.ext {w : World} {m : Option Nat} {n : Nat} {F G : Int → Option Int} (h : Mq w m n F) (e : ∀ k, (Lit.int .i64 k).wf = true → G k = F k) : Mq w m n G := by
  cases m with
  | none => exact fun k hk => (e k hk).trans (h k hk)
  | some b => obtain ⟨D, h, h'⟩ := h; exact ⟨D, h, fun k hk => by rw [e k hk]; exact h' k hk⟩

section
variable (w : World) {ops : Array Oper} {rest : List Oper} {o : Oper} {a : Act} {Q : Exit → Act → World → Prop}
theorem wpList_look (hg : o.guard = none) (mo x : Operand) (hop : o.op = Op.lookup 40 mo x true) (m : Option Nat) (n : Nat) (F : Int → Option Int) (hm : a.eval mo = .map m) (hM : Mq w m n F) (k : Int) (hx : a.eval x = .int .i64 k) (hk : (Lit.int .i64 k).wf = true)
    (hK : wpList Try.prog ops Q rest (a.put o.dst (.tuple #[.int .u8 ((F k).getD 0), .bool (F k).isSome])) w) : wpList Try.prog ops Q (o :: rest) a w := by
  cases m with
  | none =>
    refine wpList_plain hg fun K' hK' => ?_
    have hrun := look_nil (w := w) true lawK Try.underlying40 (zeroE w) (keyOf_int_mk Try.underlying3 hk)
    have hF := hM k hk
    rw [hF] at hK
    unfold Oper.wp
    simp [execOp, hop, hm, hx, hrun, Result.andThen]
    exact hK' _ _ hK
  | some b =>
    obtain ⟨D, hown, hT⟩ := hM
    refine wpList_lookup_own_ok_int w hg mo x _ hop 3 5 .u8 lawK Try.underlying40 Try.underlying5 (zeroE w) b n D hm hown _ _ hx (keyOf_int_mk Try.underlying3 hk) ?_
    intro c hat _
    obtain ⟨h1, h2⟩ := hT k hk
    rw [h2] at hat
    injection hat with hat
    injection hat with _ hat
    rw [h1, ← hat]
    exact hK
theorem wpList_store (hg : o.guard = none) (mo x v : Operand) (hop : o.op = Op.mapUpdate 40 mo x v) (b n : Nat) (F : Int → Option Int) (hm : a.eval mo = .map (some b)) (hM : Mq w (some b) n F) (hn : n < maxLen) (k c : Int) (hx : a.eval x = .int .i64 k) (hv : a.eval v = .int .u8 c)
    (hk : (Lit.int .i64 k).wf = true) (hc : (Lit.int .u8 c).wf = true)
    (hK : ∀ w', Mq w' (some b) (n + 1) (fun j => if j = k then some c else F j) → w.mapTurned w' b → wpList Try.prog ops Q rest (a.put o.dst undef) w') : wpList Try.prog ops Q (o :: rest) a w := by
  obtain ⟨D, hown, hT⟩ := hM
  exact wpList_mapUpdate_in w hg mo x v _ hop 3 5 lawK Try.underlying40 _ b n D hm hown hn _ _ _ hx hv (keyOf_int_mk Try.underlying3 hk) _ [] (plainElem_int Try.underlying5 hc)
    (fun w' h1 h2 => hK w' ⟨_, h1, hT.put hown.isMap hk c⟩ h2)
theorem wpList_del (hg : o.guard = none) (mo x : Operand) (hop : o.op = Op.call { callee := Callee.builtin Builtin.delete, args := #[mo, x], argTypes := #[40, 3] }) (b n : Nat) (F : Int → Option Int) (hm : a.eval mo = .map (some b)) (hM : Mq w (some b) n F) (k : Int) (hx : a.eval x = .int .i64 k)
    (hk : (Lit.int .i64 k).wf = true)
    (hK : ∀ w', Mq w' (some b) n (fun j => if j = k then none else F j) → w.mapTurned w' b → wpList Try.prog ops Q rest (a.put o.dst (.tuple #[])) w') : wpList Try.prog ops Q (o :: rest) a w := by
  obtain ⟨D, hown, hT⟩ := hM
  exact wpList_delete_own w hg mo x _ _ hop 5 lawK Try.underlying40 _ b n D hm hown _ _ hx (keyOf_int_mk Try.underlying3 hk)
    (fun w' h1 h2 => hK w' ⟨_, h1, hT.del k⟩ h2)
end

/-! ### what stands still -/
/-- w' is w, but for blocks of p and for new ones. -/
structure Only (p : Nat → Prop) (w w' : World) : Prop where
  os : w'.os = w.os
  tape : w'.tape = w.tape
  output : w'.output = w.output
  size : w.heap.size ≤ w'.heap.size
  block : ∀ k, k < w.heap.size → ¬ p k → w'.heap[k]? = w.heap[k]?
theorem Only.refl (p : Nat → Prop) (w : World) : Only p w w := ⟨rfl, rfl, rfl, Nat.le_refl _, fun _ _ _ => rfl⟩
theorem Only.trans {p : Nat → Prop} {a b c : World} (h : Only p a b) (k : Only p b c) : Only p a c :=
  ⟨k.os.trans h.os, k.tape.trans h.tape, k.output.trans h.output, Nat.le_trans h.size k.size, fun i hi hp => (k.block i (Nat.lt_of_lt_of_le hi h.size) hp).trans (h.block i hi hp)⟩
theorem Only.imp {p q : Nat → Prop} {w w' : World} (h : Only p w w') (hq : ∀ k, k < w.heap.size → p k → q k) : Only q w w' :=
  ⟨h.os, h.tape, h.output, h.size, fun k hk hn => h.block k hk (fun hp => hn (hq k hk hp))⟩
theorem Only.alloc {p : Nat → Prop} {a w : World} (h : Only p a w) (o : Obj) : Only p a (w.alloc o) :=
  ⟨h.os, h.tape, h.output, Nat.le_trans h.size (by simp), fun k hk hp => (Below.heap_alloc _ _ _ (Nat.lt_of_lt_of_le hk h.size)).trans (h.block k hk hp)⟩
theorem Only.drew {p : Nat → Prop} {a w : World} (h : Only p a w) : Only p a w.drew := ⟨h.os, h.tape, h.output, h.size, h.block⟩
theorem Only.drewN {p : Nat → Prop} {a w : World} (h : Only p a w) (n : Nat) : Only p a (w.drewN n) := ⟨h.os, h.tape, h.output, h.size, h.block⟩
theorem Only.setCell {p : Nat → Prop} {a w : World} (h : Only p a w) {ad : Addr} (hp : p ad.block) (u : Value) : Only p a (w.setCell ad u) :=
  ⟨h.os, h.tape, h.output, Nat.le_trans h.size (by simp [World.setCell]), fun k hk hn => (Below.heap_setCell _ _ _ _ (fun e => hn (by rw [e]; exact hp))).trans (h.block k hk hn)⟩
/-- A store into a block that is new. -/
theorem Only.setNew {p : Nat → Prop} {a w : World} (h : Only p a w) {ad : Addr} (hp : a.heap.size ≤ ad.block) (u : Value) : Only p a (w.setCell ad u) :=
  ⟨h.os, h.tape, h.output, Nat.le_trans h.size (by simp [World.setCell]), fun k hk hn => (Below.heap_setCell _ _ _ _ (by omega)).trans (h.block k hk hn)⟩
theorem Only.grown {p : Nat → Prop} {a w w' : World} {row : Option Nat} (h : Only p a w) (hg : w.grownBy w' row) (hr : ∀ k, row = some k → p k ∨ a.heap.size ≤ k) : Only p a w' :=
  ⟨hg.os.trans h.os, hg.tape.trans h.tape, hg.output.trans h.output, Nat.le_trans h.size hg.size, fun k hk hn => (hg.block k (Nat.lt_of_lt_of_le hk h.size) (fun e => (hr k e.symm).elim hn (by omega))).trans (h.block k hk hn)⟩
theorem Only.turned {p : Nat → Prop} {a w w' : World} {b : Nat} (h : Only p a w) (hg : w.mapTurned w' b) (hr : p b ∨ a.heap.size ≤ b) : Only p a w' := h.grown hg.grown (fun k e => by injection e with e; subst e; exact hr)
theorem Only.below {p : Nat → Prop} {w w' : World} {B : Nat} (h : Only p w w') (hB : B ≤ w.heap.size) (hp : ∀ k, p k → B ≤ k) : Below B w w' :=
  ⟨h.os, h.tape, h.output, h.size, fun k hk => h.block k (by omega) (fun e => by have := hp k e; omega)⟩
theorem Only.of_below {p : Nat → Prop} {w w' : World} (h : Below w.heap.size w w') : Only p w w' := ⟨h.os, h.tape, h.output, h.size, fun k hk _ => h.block k hk⟩
theorem Only.cell {p : Nat → Prop} {w w' : World} (h : Only p w w') {ad : Addr} (hn : ¬ p ad.block) {v : Value} (hc : w.cell? ad = some v) : w'.cell? ad = some v := by
  have hlt : ad.block < w.heap.size := World.block_lt_of_cell? w ad hc
  exact (World.cell?_of_block (h.block _ hlt hn)).trans hc
/-- A row of numbers is read as it was. -/
theorem Only.reads {p : Nat → Prop} {w w' : World} (h : Only p w w') {k : IntKind} {A : Option Addr} {xs : List Int} (hC : (Kd.int k).C w A xs.length xs) (hn : ∀ ad, A = some ad → ¬ p ad.block) : (Kd.int k).C w' A xs.length xs := by
  refine ⟨hC.1, hC.2.1, fun hl => ?_⟩
  obtain ⟨ad, e, hc⟩ := hC.2.2 hl
  refine ⟨ad, e, fun j q hj => ?_⟩
  obtain ⟨c, h1, h2, h3⟩ := hc j q hj
  exact ⟨c, h1, h2, fun i u hu => h.cell (ad := ad.add (j * (Kd.int k).sz + i)) (by have := hn ad e; unfold Addr.add; split <;> exact this) (h3 i u hu)⟩
end Go.Proofs.Ytbcleckapamicaa.Stm
