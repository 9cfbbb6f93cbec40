/- Two sets of a law's own, side by side. -/
import Derived.Test.YtpihkmpcnkhnfaaSq0
namespace Go.Proofs.Ytpihkmpcnkhnfaa.Sp
open Go Go.RowKit Go.Lib Go.Proofs.YtpihkmpcnkhnfaaW.PrintWords
open Go.Proofs.Ytpihkmpcnkhnfaa.Onl (Only)
set_option linter.unusedVariables false
set_option linter.unusedSimpArgs false

theorem added_ne {l : List Spn} {f x : Int} {A A' : Option Addr} (hz : A = none ∨ 0 < l.length) (hf : (addS l f x).1 = false → A' = A) : A' = none ∨ 0 < (addS l f x).2.1.length := by
  by_cases hm : may l f x = true
  · have hl : 0 < (put l x).length := by unfold put; simp; omega
    right
    unfold addS
    rw [if_pos hm]
    split
    · rename_i h; simp; omega
    · exact hl
  · have e : addS l f x = (false, l, f) := by unfold addS; rw [if_neg hm]
    rw [e] at hf ⊢
    rw [hf rfl]; exact hz
/-- Two sets of a law's own: neither's memory is the other's. -/
structure Own2 (W0 W : World) (f : Int) (l : List Spn) (sb : Nat) (f' : Int) (l' : List Spn) (sb' : Nat) : Prop where
  st : ∃ A c A' c', St W sb A c f l ∧ St W sb' A' c' f' l' ∧ (∀ k, rb A = some k → W0.heap.size ≤ k ∧ k ≠ sb' ∧ rb A' ≠ some k) ∧ (∀ k, rb A' = some k → W0.heap.size ≤ k ∧ k ≠ sb) ∧ (A = none ∨ 0 < l.length) ∧ (A' = none ∨ 0 < l'.length)
  ne : sb ≠ sb'
  lo : W0.heap.size ≤ sb
  lo' : W0.heap.size ≤ sb'
  bl : Below W0.heap.size W0 W
theorem Own2.swap {W0 W : World} {f f' : Int} {l l' : List Spn} {sb sb' : Nat} (h : Own2 W0 W f l sb f' l' sb') : Own2 W0 W f' l' sb' f l sb := by
  obtain ⟨⟨A, c, A', c', hS, hS', h1, h2, z1, z2⟩, hne, hlo, hlo', hbl⟩ := h
  refine ⟨⟨A', c', A, c, hS', hS, fun k e => ⟨(h2 k e).1, (h2 k e).2, fun q => (h1 k q).2.2 e⟩, fun k e => ⟨(h1 k e).1, (h1 k e).2.1⟩, z2, z1⟩, hne.symm, hlo', hlo, hbl⟩
theorem Own2.new (w : World) : Own2 w ((w.alloc (.cells #[.slice none 0 0, .int .i64 0] 26)).alloc (.cells #[.slice none 0 0, .int .i64 0] 26)) 0 [] w.heap.size 0 [] (w.heap.size + 1) := by
  have e : (w.alloc (.cells #[.slice none 0 0, .int .i64 0] 26)).heap.size = w.heap.size + 1 := World.size_alloc _ _
  refine ⟨⟨none, 0, none, 0, ⟨?_, .inl ⟨rfl, rfl, rfl⟩, by intro a e; cases e⟩, ⟨?_, .inl ⟨rfl, rfl, rfl⟩, by intro a e; cases e⟩, (fun k e => by cases e), (fun k e => by cases e), .inl rfl, .inl rfl⟩, by omega, Nat.le_refl _, by omega, below_alloc (below_alloc (Below.refl _ _) _) _⟩
  · rw [Below.heap_alloc _ _ _ (by omega)]; exact alloc_at _ _
  · rw [← e]; exact alloc_at _ _
theorem Own2.below {W0 W W' : World} {f f' : Int} {l l' : List Spn} {sb sb' : Nat} (h : Own2 W0 W f l sb f' l' sb') (hb : Below W.heap.size W W') : Own2 W0 W' f l sb f' l' sb' := by
  obtain ⟨⟨A, c, A', c', hS, hS', h1, h2, z1, z2⟩, hne, hlo, hlo', hbl⟩ := h
  exact ⟨⟨A, c, A', c', hS.below hb, hS'.below hb, h1, h2, z1, z2⟩, hne, hlo, hlo', hbl.trans (hb.mono hbl.size)⟩
theorem Own2.add {W0 W : World} {f f' : Int} {l l' : List Spn} {sb sb' : Nat} (h : Own2 W0 W f l sb f' l' sb') (hA : Asc l) (hBd : Bd l) (hl : l.length ≤ 100) (x : Int) :
    Calls Try.prog 7 #[.pointer (some ⟨sb, 0, none⟩), .int .i64 x] W fun e W' => e = .returned (.bool (addS l f x).1) ∧ Own2 W0 W' (addS l f x).2.2 (addS l f x).2.1 sb f' l' sb' := by
  obtain ⟨⟨A, c, A', c', hS, hS', h1, h2, z1, z2⟩, hne, hlo, hlo', hbl⟩ := h
  refine (add_calls hS hA hBd hl).mono ?_
  rintro e W' ⟨A1, c1, rfl, hS1, ho, hr, hf⟩
  have hS1' : St W' sb' A' c' f' l' := hS'.only ho (by
      rintro (q | q)
      · exact hne q.symm
      · exact (h1 sb' q.symm).2.1 rfl) (by
      rintro k e (q | q)
      · exact (h2 k e).2 q
      · exact (h1 k q.symm).2.2 e)
  refine ⟨rfl, ⟨A1, c1, A', c', hS1, hS1', ?_, h2, added_ne z1 hf, z2⟩, hne, hlo, hlo', hbl.trans (ho.below hbl.size ?_)⟩
  · intro k e
    rcases hr with hr | hr
    · exact h1 k (hr ▸ e)
    · have h3 := hr k e
      refine ⟨by have := hbl.size; omega, fun q => by have := hS'.lt; omega, fun q => by have := hS'.row.lt k q; omega⟩
  · rintro k (rfl | e)
    · exact hlo
    · exact (h1 k e.symm).1
theorem Own2.spans {W0 W : World} {f f' : Int} {l l' : List Spn} {sb sb' : Nat} (h : Own2 W0 W f l sb f' l' sb') (hl : l.length ≤ 1000) :
    Calls Try.prog 8 #[.pointer (some ⟨sb, 0, none⟩)] W fun e W' => ∃ A' c', e = .returned (.slice A' l.length c') ∧ Row W' A' c' l.reverse ∧ Own2 W0 W' f l sb f' l' sb' ∧ Below W.heap.size W W' := by
  obtain ⟨⟨A, c, A', c', hS, hS', h1, h2, z1, z2⟩, hne, hlo, hlo', hbl⟩ := h
  refine (spans_calls hS z1 hl).mono ?_
  rintro e W' ⟨A1, c1, rfl, hR, _, hb⟩
  exact ⟨A1, c1, by rw [List.length_reverse], hR, ⟨⟨A, c, A', c', hS.below hb, hS'.below hb, h1, h2, z1, z2⟩, hne, hlo, hlo', hbl.trans (hb.mono hbl.size)⟩, hb⟩
end Go.Proofs.Ytpihkmpcnkhnfaa.Sp
