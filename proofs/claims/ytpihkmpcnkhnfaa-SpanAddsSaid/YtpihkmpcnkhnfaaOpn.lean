/- What comes in, opened by its type: numbers, bools, slices, structs, nested: each reading gives a value of the print's kinds. -/
import Derived.Test.YtpihkmpcnkhnfaaWWords
import Derived.Deep.Slices
import Derived.WideShapes
import Derived.ProofKit
namespace Go.Proofs.Ytpihkmpcnkhnfaa.Opn
open Go.RowKit Go.Proofs.YtpihkmpcnkhnfaaW.PrintWords
set_option linter.unusedVariables false
variable {P : Program}

/-- Whatever reads as data of type t is of kind d; ok is told of it besides. -/
def Opens (P : Program) (t : TypeId) {α : Type} (d : Kd α) (ok : α → Prop) : Prop :=
  ∀ (H : Type) (enc : TypeId × Value → H) (w : World) (base : Nat) (spare : Nat → Bool) (held : Bool) (fuel : Nat) (cs : List Value) (x : DataW H × List MemPlace),
    DataW.trod enc P w base spare held fuel t cs = some x → ∃ a, d.K w a cs ∧ ok a

theorem Opens.int {t : TypeId} {k : IntKind} (ht : P.underlying t = some (.int k)) : Opens P t (Kd.int k) (fun n => (Lit.int k n).wf = true) := by
  intro H enc w base spare held fuel cs x h
  obtain ⟨n, rfl, _, hw⟩ := DataW.trod_int ht h
  exact ⟨n, rfl, hw⟩
theorem Opens.bool {t : TypeId} (ht : P.underlying t = some .bool) : Opens P t Kd.bool (fun _ => True) := by
  intro H enc w base spare held fuel cs x h
  obtain ⟨b, rfl, _⟩ := DataW.trod_bool ht h
  exact ⟨b, rfl, trivial⟩
theorem Opens.slice {t e : TypeId} {α : Type} {d : Kd α} {ok : α → Prop} (ht : P.underlying t = some (.slice e)) (hs : P.cellsOf e = d.sz) (he : Opens P e d ok) :
    Opens P t (Kd.slice e d) (fun xs => xs.length ≤ 9223372036854775807 ∧ ∀ x ∈ xs, ok x) := by
  classical
  intro H enc w base spare held fuel cs x h
  rcases Go.Deep.open_slice ht h with ⟨rfl, _⟩ | ⟨a, len, cap, m, n, D, Pl, rfl, hb, hl, hm, hmm, _, hx⟩
  · exact ⟨[], ⟨none, 0, rfl, by simp, Kd.C_nil d w⟩, by simp, by simp⟩
  · have hlm : len ≤ m := by rw [hmm]; split <;> omega
    have hex : ∀ i, i < len → ∃ p : α, (∃ c, c.length = d.sz ∧ d.K w p c ∧ ∀ j u, c[j]? = some u → w.cell? (a.add (i * d.sz + j)) = some u) ∧ ok p := by
      intro i hi
      obtain ⟨c, hc1, hc2⟩ := hx i (by omega)
      obtain ⟨_, hlen, hcell⟩ := World.cells?_some hc1
      obtain ⟨p, hK, ho⟩ := he H enc w base spare held n c _ hc2
      rw [hs] at hlen hcell
      refine ⟨p, ⟨c, hlen, hK, fun j u hj => ?_⟩, ho⟩
      have hjl : j < d.sz := by
        rcases Nat.lt_or_ge j c.length with h1 | h1
        · omega
        · rw [List.getElem?_eq_none h1] at hj; cases hj
      have := hcell j hjl
      rw [Addr.add_add] at this
      rw [this, hj]
    have hmax : len ≤ 9223372036854775807 := by have := hm; simp only [maxLen] at this; omega
    have hL : ∃ l : List α, l.length = len ∧ ∀ (i : Nat) (p : α), l[i]? = some p → (∃ c, c.length = d.sz ∧ d.K w p c ∧ ∀ j u, c[j]? = some u → w.cell? (a.add (i * d.sz + j)) = some u) ∧ ok p := by
      refine ⟨List.ofFn (fun i : Fin len => Classical.choose (hex i.1 i.2)), by simp, fun i p hp => ?_⟩
      rw [List.getElem?_ofFn] at hp
      split at hp
      · rename_i hi
        obtain rfl := Option.some.inj hp
        exact Classical.choose_spec (hex i hi)
      · cases hp
    obtain ⟨l, hlen, hall⟩ := hL
    refine ⟨l, ⟨some a, cap, by rw [hlen], by omega, hlen ▸ rfl, by omega, fun _ => ⟨a, rfl, fun j p hp => (hall j p hp).1⟩⟩, by omega, fun p hp => ?_⟩
    obtain ⟨i, hi, rfl⟩ := List.mem_iff_getElem.1 hp
    exact (hall i _ (List.getElem?_eq_getElem hi)).2

/-- A struct's fields from one offset on. -/
def OpensF (P : Program) (fs : List Field) (off : Nat) {α : Type} (d : Kd α) (ok : α → Prop) : Prop :=
  ∀ (H : Type) (enc : TypeId × Value → H) (w : World) (base : Nat) (spare : Nat → Bool) (held : Bool) (n : Nat) (cs : List Value), cs.length = off + d.sz →
    (∀ f, f ∈ fs → ∃ y, DataW.trod enc P w base spare held n f.type ((cs.drop f.offset).take (P.cellsOf f.type)) = some y) → ∃ a, d.K w a (cs.drop off) ∧ ok a
theorem OpensF.last {f : Field} {off : Nat} {α : Type} {d : Kd α} {ok : α → Prop} (ho : f.offset = off) (hc : P.cellsOf f.type = d.sz) (h : Opens P f.type d ok) : OpensF P [f] off d ok := by
  intro H enc w base spare held n cs hl hf
  obtain ⟨y, hy⟩ := hf f (List.mem_singleton.2 rfl)
  rw [ho, hc, List.take_of_length_le (by simp; omega)] at hy
  exact h H enc w base spare held n _ _ hy
theorem OpensF.cons {f : Field} {fs : List Field} {off : Nat} {α β : Type} {d : Kd α} {d' : Kd β} {ok : α → Prop} {ok' : β → Prop} (ho : f.offset = off) (hc : P.cellsOf f.type = d.sz) (h : Opens P f.type d ok) (h' : OpensF P fs (off + d.sz) d' ok') :
    OpensF P (f :: fs) off (Kd.pair d d') (fun p => ok p.1 ∧ ok' p.2) := by
  intro H enc w base spare held n cs hl hf
  have hl' : cs.length = off + (d.sz + d'.sz) := hl
  obtain ⟨y, hy⟩ := hf f (List.mem_cons_self ..)
  rw [ho, hc] at hy
  obtain ⟨a, hK, hok⟩ := h H enc w base spare held n _ _ hy
  obtain ⟨b, hK', hok'⟩ := h' H enc w base spare held n cs (by omega) (fun g hg => hf g (List.mem_cons_of_mem _ hg))
  refine ⟨(a, b), ⟨_, _, ?_, hK, hK'⟩, hok, hok'⟩
  rw [← List.drop_drop, List.take_append_drop]
theorem OpensF.iso {fs : List Field} {off : Nat} {α β : Type} {d : Kd α} {ok : α → Prop} {f : β → α} (g : α → β) (hg : ∀ a, f (g a) = a) (h : OpensF P fs off d ok) : OpensF P fs off (Kd.iso d f) (fun b => ok (f b)) := by
  intro H enc w base spare held n cs hl hf
  obtain ⟨a, hK, hok⟩ := h H enc w base spare held n cs hl hf
  exact ⟨g a, by show d.K w (f (g a)) _; rw [hg]; exact hK, by show ok (f (g a)); rw [hg]; exact hok⟩
theorem Opens.struct {t : TypeId} {fs : Array Field} {α : Type} {d : Kd α} {ok : α → Prop} (ht : P.underlying t = some (.struct fs)) (hs : P.cellsOf t = d.sz) (h : OpensF P fs.toList 0 d ok) : Opens P t d ok := by
  intro H enc w base spare held fuel cs x hx
  obtain ⟨xs, n, _, _, hl, hlen, hf⟩ := DataW.trod_struct ht hx
  have := h H enc w base spare held n cs (by rw [hl, hs]; omega) (fun f hm => ?_)
  · rwa [List.drop_zero] at this
  · obtain ⟨i, hi, rfl⟩ := List.mem_iff_getElem.1 hm
    have hi' : i < fs.size := by simpa using hi
    have := hf i fs[i] (by simp [hi'])
    refine ⟨xs[i]'(by omega), ?_⟩
    rw [List.getElem?_eq_getElem (show i < xs.length by omega)] at this
    simpa using this

/-- A parameter's value. -/
theorem Opens.value {t : TypeId} {α : Type} {d : Kd α} {ok : α → Prop} (h : Opens P t d ok) {H : Type} {enc : TypeId × Value → H} {w : World} {base : Nat} {spare : Nat → Bool} {held : Bool} {v : Value} {x : DataW H} {ps : List MemPlace} (hv : DataW.Trod enc P w base spare held t v x ps) :
    ∃ a, d.K w a v.cells.toList ∧ ok a := by
  obtain ⟨fuel, hf⟩ := hv
  exact h H enc w base spare held fuel _ _ hf
/-- A slice that came in. -/
theorem Opens.sliceValue {t e : TypeId} {α : Type} {d : Kd α} {ok : List α → Prop} (h : Opens P t (Kd.slice e d) ok) {H : Type} {enc : TypeId × Value → H} {w : World} {base : Nat} {spare : Nat → Bool} {held : Bool} {a : Option Addr} {len cap : Nat} {x : DataW H} {ps : List MemPlace} (hv : DataW.Trod enc P w base spare held t (.slice a len cap) x ps) :
    ∃ l : List α, len = l.length ∧ l.length ≤ cap ∧ d.C w a l.length l ∧ ok l := by
  obtain ⟨l, ⟨A, c, hcs, hl, hC⟩, ho⟩ := h.value hv
  simp [Value.cells] at hcs
  obtain ⟨rfl, rfl, rfl⟩ := hcs
  exact ⟨l, rfl, hl, hC, ho⟩
/-- A struct that came in by value. -/
theorem Opens.aggValue {t : TypeId} {fs : Array Field} {α : Type} {d : Kd α} {ok : α → Prop} (h : Opens P t d ok) (ht : P.underlying t = some (.struct fs)) {H : Type} {enc : TypeId × Value → H} {w : World} {base base' : Nat} {spare : Nat → Bool} {held : Bool} {r : Reach} {v : Value} {x : DataW H} {ps : List MemPlace}
    (ho : Value.okWide P w r base' t v) (hv : DataW.Trod enc P w base spare held t v x ps) : ∃ cs a, v = .agg cs ∧ d.K w a cs.toList ∧ ok a := by
  obtain ⟨cs, rfl, _⟩ := Go.WideShapes.okWide_struct ht ho
  obtain ⟨a, hK, hok⟩ := h.value hv
  exact ⟨cs, a, rfl, hK, hok⟩
end Go.Proofs.Ytpihkmpcnkhnfaa.Opn
