/- A part of the proof of the law HeaderJoins: Opn, PrmHeaderJoins, PureHeaderJoins, Tab. -/
import Derived.Test.YtpihkmpcnkhnfaaDoorZHj00
import Derived.Deep.Slices
import Derived.WideShapes
import Derived.ProofKit
import Derived.Test.YtpihkmpcnkhnfaaDoorZHj09
import Derived.Test.YtpihkmpcnkhnfaaDoorRows
import Derived.Test.YtpihkmpcnkhnfaaDoorZHj02
import Derived.LaidLaws
import Derived.Lib.LaidTab
import Derived.Stop.LaidErr
namespace Go.Proofs.YtpihkmpcnkhnfaaDoor.Opn
open Go.RowKit Go.Proofs.YtpihkmpcnkhnfaaDoorW.PrintWords
set_option linter.unusedVariables false
variable {P : Program}
def Opens (P : Program) (t : TypeId) {α : Type} (d : Kd α) (ok : α → Prop) : Prop :=
  ∀ (H : Type) (enc : TypeId × Value → H) (w : World) (base : Nat) (spare : Nat → Bool) (held : Bool) (fuel : Nat) (cs : List Value) (x : DataW H × List MemPlace),
    DataW.trod enc P w base spare held fuel t cs = some x → ∃ a, d.K w a cs ∧ ok a
theorem Opens.int {t : TypeId} {k : IntKind} (ht : P.underlying t = some (.int k)) : Opens P t (Kd.int k) (fun n => (Lit.int k n).wf = true) := by
  intro H enc w base spare held fuel cs x h
  obtain ⟨n, rfl, _, hw⟩ := DataW.trod_int ht h
  exact ⟨n, rfl, hw⟩
theorem Opens.bool {t : TypeId} (ht : P.underlying t = some .bool) : Opens P t Kd.bool (fun _ => True) := by
  intro H enc w base spare held fuel cs x h
  obtain ⟨b, rfl, _⟩ := DataW.trod_bool ht h
  exact ⟨b, rfl, trivial⟩
theorem Opens.slice {t e : TypeId} {α : Type} {d : Kd α} {ok : α → Prop} (ht : P.underlying t = some (.slice e)) (hs : P.cellsOf e = d.sz) (he : Opens P e d ok) :
    Opens P t (Kd.slice e d) (fun xs => xs.length ≤ 9223372036854775807 ∧ ∀ x ∈ xs, ok x) := by
  classical
  intro H enc w base spare held fuel cs x h
  rcases Go.Deep.open_slice ht h with ⟨rfl, _⟩ | ⟨a, len, cap, m, n, D, Pl, rfl, hb, hl, hm, hmm, _, hx⟩
  · exact ⟨[], ⟨none, 0, rfl, by simp, Kd.C_nil d w⟩, by simp, by simp⟩
  · have hlm : len ≤ m := by rw [hmm]; split <;> omega
    have hex : ∀ i, i < len → ∃ p : α, (∃ c, c.length = d.sz ∧ d.K w p c ∧ ∀ j u, c[j]? = some u → w.cell? (a.add (i * d.sz + j)) = some u) ∧ ok p := by
      intro i hi
      obtain ⟨c, hc1, hc2⟩ := hx i (by omega)
      obtain ⟨_, hlen, hcell⟩ := World.cells?_some hc1
      obtain ⟨p, hK, ho⟩ := he H enc w base spare held n c _ hc2
      rw [hs] at hlen hcell
      refine ⟨p, ⟨c, hlen, hK, fun j u hj => ?_⟩, ho⟩
      have hjl : j < d.sz := by
        rcases Nat.lt_or_ge j c.length with h1 | h1
        · omega
        · rw [List.getElem?_eq_none h1] at hj; cases hj
      have := hcell j hjl
      rw [Addr.add_add] at this
      rw [this, hj]
    have hmax : len ≤ 9223372036854775807 := by have := hm; simp only [maxLen] at this; omega
    have hL : ∃ l : List α, l.length = len ∧ ∀ (i : Nat) (p : α), l[i]? = some p → (∃ c, c.length = d.sz ∧ d.K w p c ∧ ∀ j u, c[j]? = some u → w.cell? (a.add (i * d.sz + j)) = some u) ∧ ok p := by
      refine ⟨List.ofFn (fun i : Fin len => Classical.choose (hex i.1 i.2)), by simp, fun i p hp => ?_⟩
      rw [List.getElem?_ofFn] at hp
      split at hp
      · rename_i hi
        obtain rfl := Option.some.inj hp
        exact Classical.choose_spec (hex i hi)
      · cases hp
    obtain ⟨l, hlen, hall⟩ := hL
    refine ⟨l, ⟨some a, cap, by rw [hlen], by omega, hlen ▸ rfl, by omega, fun _ => ⟨a, rfl, fun j p hp => (hall j p hp).1⟩⟩, by omega, fun p hp => ?_⟩
    obtain ⟨i, hi, rfl⟩ := List.mem_iff_getElem.1 hp
    exact (hall i _ (List.getElem?_eq_getElem hi)).2
def OpensF (P : Program) (fs : List Field) (off : Nat) {α : Type} (d : Kd α) (ok : α → Prop) : Prop :=
  ∀ (H : Type) (enc : TypeId × Value → H) (w : World) (base : Nat) (spare : Nat → Bool) (held : Bool) (n : Nat) (cs : List Value), cs.length = off + d.sz →
    (∀ f, f ∈ fs → ∃ y, DataW.trod enc P w base spare held n f.type ((cs.drop f.offset).take (P.cellsOf f.type)) = some y) → ∃ a, d.K w a (cs.drop off) ∧ ok a
theorem OpensF.last {f : Field} {off : Nat} {α : Type} {d : Kd α} {ok : α → Prop} (ho : f.offset = off) (hc : P.cellsOf f.type = d.sz) (h : Opens P f.type d ok) : OpensF P [f] off d ok := by
  intro H enc w base spare held n cs hl hf
  obtain ⟨y, hy⟩ := hf f (List.mem_singleton.2 rfl)
  rw [ho, hc, List.take_of_length_le (by simp; omega)] at hy
  exact h H enc w base spare held n _ _ hy
theorem OpensF.cons {f : Field} {fs : List Field} {off : Nat} {α β : Type} {d : Kd α} {d' : Kd β} {ok : α → Prop} {ok' : β → Prop} (ho : f.offset = off) (hc : P.cellsOf f.type = d.sz) (h : Opens P f.type d ok) (h' : OpensF P fs (off + d.sz) d' ok') :
    OpensF P (f :: fs) off (Kd.pair d d') (fun p => ok p.1 ∧ ok' p.2) := by
  intro H enc w base spare held n cs hl hf
  have hl' : cs.length = off + (d.sz + d'.sz) := hl
  obtain ⟨y, hy⟩ := hf f (List.mem_cons_self ..)
  rw [ho, hc] at hy
  obtain ⟨a, hK, hok⟩ := h H enc w base spare held n _ _ hy
  obtain ⟨b, hK', hok'⟩ := h' H enc w base spare held n cs (by omega) (fun g hg => hf g (List.mem_cons_of_mem _ hg))
  refine ⟨(a, b), ⟨_, _, ?_, hK, hK'⟩, hok, hok'⟩
  rw [← List.drop_drop, List.take_append_drop]
theorem OpensF.iso {fs : List Field} {off : Nat} {α β : Type} {d : Kd α} {ok : α → Prop} {f : β → α} (g : α → β) (hg : ∀ a, f (g a) = a) (h : OpensF P fs off d ok) : OpensF P fs off (Kd.iso d f) (fun b => ok (f b)) := by
  intro H enc w base spare held n cs hl hf
  obtain ⟨a, hK, hok⟩ := h H enc w base spare held n cs hl hf
  exact ⟨g a, by show d.K w (f (g a)) _; rw [hg]; exact hK, by show ok (f (g a)); rw [hg]; exact hok⟩
theorem Opens.struct {t : TypeId} {fs : Array Field} {α : Type} {d : Kd α} {ok : α → Prop} (ht : P.underlying t = some (.struct fs)) (hs : P.cellsOf t = d.sz) (h : OpensF P fs.toList 0 d ok) : Opens P t d ok := by
  intro H enc w base spare held fuel cs x hx
  obtain ⟨xs, n, _, _, hl, hlen, hf⟩ := DataW.trod_struct ht hx
  have := h H enc w base spare held n cs (by rw [hl, hs]; omega) (fun f hm => ?_)
  · rwa [List.drop_zero] at this
  · obtain ⟨i, hi, rfl⟩ := List.mem_iff_getElem.1 hm
    have hi' : i < fs.size := by simpa using hi
    have := hf i fs[i] (by simp [hi'])
    refine ⟨xs[i]'(by omega), ?_⟩
    rw [List.getElem?_eq_getElem (show i < xs.length by omega)] at this
    simpa using this
theorem Opens.value {t : TypeId} {α : Type} {d : Kd α} {ok : α → Prop} (h : Opens P t d ok) {H : Type} {enc : TypeId × Value → H} {w : World} {base : Nat} {spare : Nat → Bool} {held : Bool} {v : Value} {x : DataW H} {ps : List MemPlace} (hv : DataW.Trod enc P w base spare held t v x ps) :
    ∃ a, d.K w a v.cells.toList ∧ ok a := by
  obtain ⟨fuel, hf⟩ := hv
  exact h H enc w base spare held fuel _ _ hf
theorem Opens.aggValue {t : TypeId} {fs : Array Field} {α : Type} {d : Kd α} {ok : α → Prop} (h : Opens P t d ok) (ht : P.underlying t = some (.struct fs)) {H : Type} {enc : TypeId × Value → H} {w : World} {base base' : Nat} {spare : Nat → Bool} {held : Bool} {r : Reach} {v : Value} {x : DataW H} {ps : List MemPlace}
    (ho : Value.okWide P w r base' t v) (hv : DataW.Trod enc P w base spare held t v x ps) : ∃ cs a, v = .agg cs ∧ d.K w a cs.toList ∧ ok a := by
  obtain ⟨cs, rfl, _⟩ := Go.WideShapes.okWide_struct ht ho
  obtain ⟨a, hK, hok⟩ := h.value hv
  exact ⟨cs, a, rfl, hK, hok⟩
end Go.Proofs.YtpihkmpcnkhnfaaDoor.Opn
namespace Go.Proofs.YtpihkmpcnkhnfaaDoor.headerJoinsPrm
open Go.RowKit Go.Proofs.YtpihkmpcnkhnfaaDoorW.PrintWords Go.Proofs.YtpihkmpcnkhnfaaDoor.QHj Go.Proofs.YtpihkmpcnkhnfaaDoor.Opn Go.Proofs.YtpihkmpcnkhnfaaDoor.QHs
set_option linter.unusedVariables false
def ok3 : Int → Prop := fun n => (Lit.int .i64 n).wf = true
theorem opens_ok3 : Opens Tryd.prog 3 (Kd.int .i64) ok3 := Opens.int Tryd.underlying3
def ok5 : Int → Prop := fun n => (Lit.int .u8 n).wf = true
theorem opens_ok5 : Opens Tryd.prog 5 (Kd.int .u8) ok5 := Opens.int Tryd.underlying5
def ok22 : List (Int) → Prop := fun xs => xs.length ≤ 9223372036854775807 ∧ ∀ x ∈ xs, ok5 x
theorem opens_ok22 : Opens Tryd.prog 22 (Kd.slice 5 (Kd.int .u8)) ok22 := Opens.slice Tryd.underlying22 (by kernel_rfl) opens_ok5
def okT28 : ((Int) × (Int) × (List (Int)) × (List (Int)) × (List (Int)) × (Int) × (Int) × (Int)) → Prop := fun x => ok3 x.1 ∧ ok3 x.2.1 ∧ ok22 x.2.2.1 ∧ ok22 x.2.2.2.1 ∧ ok22 x.2.2.2.2.1 ∧ ok3 x.2.2.2.2.2.1 ∧ ok3 x.2.2.2.2.2.2.1 ∧ ok3 x.2.2.2.2.2.2.2
theorem opens_okT28 : Opens Tryd.prog 28 (Kd.pair (Kd.int .i64) (Kd.pair (Kd.int .i64) (Kd.pair (Kd.slice 5 (Kd.int .u8)) (Kd.pair (Kd.slice 5 (Kd.int .u8)) (Kd.pair (Kd.slice 5 (Kd.int .u8)) (Kd.pair (Kd.int .i64) (Kd.pair (Kd.int .i64) (Kd.int .i64)))))))) okT28 := Opens.struct Tryd.underlying28 (by kernel_rfl) (OpensF.cons rfl (by kernel_rfl) opens_ok3 (OpensF.cons rfl (by kernel_rfl) opens_ok3 (OpensF.cons rfl (by kernel_rfl) opens_ok22 (OpensF.cons rfl (by kernel_rfl) opens_ok22 (OpensF.cons rfl (by kernel_rfl) opens_ok22 (OpensF.cons rfl (by kernel_rfl) opens_ok3 (OpensF.cons rfl (by kernel_rfl) opens_ok3 (OpensF.last rfl (by kernel_rfl) opens_ok3))))))))
def okT39 : (((Int) × (Int) × (List (Int)) × (List (Int)) × (List (Int)) × (Int) × (Int) × (Int)) × ((Int) × (Int) × (List (Int)) × (List (Int)) × (List (Int)) × (Int) × (Int) × (Int)) × ((Int) × (Int) × (List (Int)) × (List (Int)) × (List (Int)) × (Int) × (Int) × (Int)) × (List (Int))) → Prop := fun x => okT28 x.1 ∧ okT28 x.2.1 ∧ okT28 x.2.2.1 ∧ ok22 x.2.2.2
theorem opens_okT39 : Opens Tryd.prog 39 (Kd.pair (Kd.pair (Kd.int .i64) (Kd.pair (Kd.int .i64) (Kd.pair (Kd.slice 5 (Kd.int .u8)) (Kd.pair (Kd.slice 5 (Kd.int .u8)) (Kd.pair (Kd.slice 5 (Kd.int .u8)) (Kd.pair (Kd.int .i64) (Kd.pair (Kd.int .i64) (Kd.int .i64)))))))) (Kd.pair (Kd.pair (Kd.int .i64) (Kd.pair (Kd.int .i64) (Kd.pair (Kd.slice 5 (Kd.int .u8)) (Kd.pair (Kd.slice 5 (Kd.int .u8)) (Kd.pair (Kd.slice 5 (Kd.int .u8)) (Kd.pair (Kd.int .i64) (Kd.pair (Kd.int .i64) (Kd.int .i64)))))))) (Kd.pair (Kd.pair (Kd.int .i64) (Kd.pair (Kd.int .i64) (Kd.pair (Kd.slice 5 (Kd.int .u8)) (Kd.pair (Kd.slice 5 (Kd.int .u8)) (Kd.pair (Kd.slice 5 (Kd.int .u8)) (Kd.pair (Kd.int .i64) (Kd.pair (Kd.int .i64) (Kd.int .i64)))))))) (Kd.slice 5 (Kd.int .u8))))) okT39 := Opens.struct Tryd.underlying39 (by kernel_rfl) (OpensF.cons rfl (by kernel_rfl) opens_okT28 (OpensF.cons rfl (by kernel_rfl) opens_okT28 (OpensF.cons rfl (by kernel_rfl) opens_okT28 (OpensF.last rfl (by kernel_rfl) opens_ok22))))
def Pure : Prop := ∀ (x0 : ((Int) × (Int) × (List (Int)) × (List (Int)) × (List (Int)) × (Int) × (Int) × (Int)) × ((Int) × (Int) × (List (Int)) × (List (Int)) × (List (Int)) × (Int) × (Int) × (Int)) × ((Int) × (Int) × (List (Int)) × (List (Int)) × (List (Int)) × (Int) × (Int) × (Int)) × (List (Int))), okT39 x0 → shibbolethlaw05_HeaderJoins.f (x0.1.1) (x0.1.2.1) (x0.1.2.2.1) (x0.1.2.2.2.1) (x0.1.2.2.2.2.1) (x0.1.2.2.2.2.2.1) (x0.1.2.2.2.2.2.2.1) (x0.1.2.2.2.2.2.2.2) (x0.2.1.1) (x0.2.1.2.1) (x0.2.1.2.2.1) (x0.2.1.2.2.2.1) (x0.2.1.2.2.2.2.1) (x0.2.1.2.2.2.2.2.1) (x0.2.1.2.2.2.2.2.2.1) (x0.2.1.2.2.2.2.2.2.2) (x0.2.2.1.1) (x0.2.2.1.2.1) (x0.2.2.1.2.2.1) (x0.2.2.1.2.2.2.1) (x0.2.2.1.2.2.2.2.1) (x0.2.2.1.2.2.2.2.2.1) (x0.2.2.1.2.2.2.2.2.2.1) (x0.2.2.1.2.2.2.2.2.2.2) (x0.2.2.2) = some true
end Go.Proofs.YtpihkmpcnkhnfaaDoor.headerJoinsPrm
namespace Go.Proofs.YtpihkmpcnkhnfaaDoor.Pure
open Go Go.RowKit Go.Proofs.YtpihkmpcnkhnfaaDoor.QHj Go.Proofs.YtpihkmpcnkhnfaaDoor.QHc Go.Proofs.YtpihkmpcnkhnfaaDoorW.PrintWords
set_option linter.unusedVariables false
theorem u8b {x : Int} (h : (Lit.int .u8 x).wf = true) : 0 ≤ x ∧ x ≤ 255 := by
  simp [Lit.wf, IntKind.min, IntKind.max, IntKind.signed, IntKind.bits] at h
  omega
theorem HeaderJoins : headerJoinsPrm.Pure := by
  intro x hx
  have b8 : ∀ {l : List Int}, headerJoinsPrm.ok22 l → Bt l := fun h y hy => u8b (h.2 y hy)
  obtain ⟨⟨_, _, h1, h2, h3, _⟩, ⟨_, _, h4, h5, h6, _⟩, ⟨_, _, h7, h8, h9, _⟩, h10⟩ := hx
  unfold shibbolethlaw05_HeaderJoins.f
  exact if_pos ⟨b8 h1, b8 h2, b8 h3, b8 h4, b8 h5, b8 h6, b8 h7, b8 h8, b8 h9, b8 h10⟩
end Go.Proofs.YtpihkmpcnkhnfaaDoor.Pure
namespace Go.Proofs.YtpihkmpcnkhnfaaDoor.Tab
open Go.RowKit Go.Proofs.YtpihkmpcnkhnfaaDoor.Gv
set_option linter.unusedVariables false
def laid {H : Type} : List (String × DataW H) := [((Rows.headerJoinsRow.named).getD 0 default, Rows.laid_math_bits_deBruijn32tab), ((Rows.headerJoinsRow.named).getD 1 default, Rows.laid_math_bits_deBruijn64tab)]
theorem g64 : Tryd.prog.globalNamed ((Rows.headerJoinsRow.named).getD 1 default) = some 1 := by kernel_rfl
theorem ty64 : (Tryd.prog.globals[1]?).map (·.type) = some 84 := by kernel_rfl
theorem of_laid {W : World} (h : laidMet Tryd.prog laid W) : TB W := by
  have h2 : laidMet Tryd.prog [((Rows.headerJoinsRow.named).getD 1 default, Lib.tabData .u8 tab64)] W := h.tail
  have ht : Lib.TabIs Tryd.prog W ((Rows.headerJoinsRow.named).getD 1 default) .u8 tab64 := Lib.tabIs_of_head g64 ty64 Tryd.underlying84 Tryd.underlying5 (by kernel_rfl) (by kernel_rfl) h2
  exact ⟨fun i hi => ht.cell g64 i hi⟩
def tab32 : List Int := [0, 1, 28, 2, 29, 14, 24, 3, 30, 22, 20, 15, 25, 17, 4, 8, 31, 27, 13, 23, 21, 19, 16, 7, 26, 12, 18, 6, 11, 5, 10, 9]
noncomputable def laidWorld (os : Os) : World :=
  let w0 := World.holding Tryd.prog os ⟨#[], #[], []⟩
  { w0 with heap := (w0.heap.modify 0 fun
      | .cells _ t frozen => .cells (tab32.map fun z => Value.int .u8 z).toArray t frozen
      | o => o).modify 1 fun
      | .cells _ t frozen => .cells (tab64.map fun z => Value.int .u8 z).toArray t frozen
      | o => o }
set_option maxRecDepth 100000 in
theorem laidWorld_met (os : Os) (args : Array Value) : laidMet Tryd.prog laid ((laidWorld os).forCall (fun _ _ => 0) ⟨#[], args, []⟩).memory :=
  laidMet_of_run' 8 (by kernel_rfl) (by kernel_rfl)
end Go.Proofs.YtpihkmpcnkhnfaaDoor.Tab
