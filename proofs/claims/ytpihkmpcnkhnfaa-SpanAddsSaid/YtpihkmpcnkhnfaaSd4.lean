/- A set of spans and the document's set, side by side. -/
import Derived.Test.YtpihkmpcnkhnfaaSd3
namespace Go.Proofs.Ytpihkmpcnkhnfaa.Sp
open Go Go.RowKit Go.Lib Go.Proofs.YtpihkmpcnkhnfaaW.PrintWords
open Go.Proofs.Ytpihkmpcnkhnfaa.Onl (Only)
set_option linter.unusedVariables false
set_option linter.unusedSimpArgs false

/-- Both sets of a law's own: neither's memory is the other's. -/
structure Duo (W0 W : World) (f : Int) (l : List Spn) (sb : Nat) (g : Int) (L : List Int) (db : Nat) : Prop where
  st : ∃ A c B d, St W sb A c f l ∧ Dt W db B d g L ∧ (∀ k, rb A = some k → W0.heap.size ≤ k ∧ k ≠ db) ∧ (∀ a, B = some a → W0.heap.size ≤ a.block ∧ a.block ≠ sb ∧ rb A ≠ some a.block) ∧ (A = none ∨ 0 < l.length)
  ne : sb ≠ db
  lo : W0.heap.size ≤ sb
  lo' : W0.heap.size ≤ db
  bl : Below W0.heap.size W0 W
theorem Duo.new (w : World) : Duo w ((w.alloc (.cells #[.slice none 0 0, .int .i64 0] 26)).alloc (.cells #[.slice none 0 0, .int .i64 0] 35)) 0 [] w.heap.size 0 [] (w.heap.size + 1) := by
  have e : (w.alloc (.cells #[.slice none 0 0, .int .i64 0] 26)).heap.size = w.heap.size + 1 := World.size_alloc _ _
  refine ⟨⟨none, 0, none, 0, ⟨?_, .inl ⟨rfl, rfl, rfl⟩, by intro a e; cases e⟩, ⟨?_, Kd.C_nil _ _, Nat.le_refl _, by intro a e; cases e⟩, (fun k e => by cases e), (fun k e => by cases e), .inl rfl⟩, by omega, Nat.le_refl _, by omega, below_alloc (below_alloc (Below.refl _ _) _) _⟩
  · rw [Below.heap_alloc _ _ _ (by omega)]; exact alloc_at _ _
  · rw [← e]; exact alloc_at _ _
theorem Duo.below {W0 W W' : World} {f g : Int} {l : List Spn} {L : List Int} {sb db : Nat} (h : Duo W0 W f l sb g L db) (hb : Below W.heap.size W W') : Duo W0 W' f l sb g L db := by
  obtain ⟨⟨A, c, B, d, hS, hD, h1, h2, hz⟩, hne, hlo, hlo', hbl⟩ := h
  exact ⟨⟨A, c, B, d, hS.below hb, hD.below hb, h1, h2, hz⟩, hne, hlo, hlo', hbl.trans (hb.mono hbl.size)⟩
theorem Duo.addS {W0 W : World} {f g : Int} {l : List Spn} {L : List Int} {sb db : Nat} (h : Duo W0 W f l sb g L db) (hA : Asc l) (hBd : Bd l) (hl : l.length ≤ 100) (x : Int) :
    Calls Try.prog 7 #[.pointer (some ⟨sb, 0, none⟩), .int .i64 x] W fun e W' => e = .returned (.bool (addS l f x).1) ∧ Duo W0 W' (addS l f x).2.2 (addS l f x).2.1 sb g L db := by
  obtain ⟨⟨A, c, B, d, hS, hD, h1, h2, hz⟩, hne, hlo, hlo', hbl⟩ := h
  refine (add_calls hS hA hBd hl).mono ?_
  rintro e W' ⟨A1, c1, rfl, hS1, ho, hr, hf⟩
  have hD1 : Dt W' db B d g L := hD.only ho (by
      rintro (q | q)
      · exact hne q.symm
      · exact (h1 db q.symm).2 rfl) (by
      rintro a e (q | q)
      · exact (h2 a e).2.1 q
      · exact (h2 a e).2.2 q.symm)
  refine ⟨rfl, ⟨A1, c1, B, d, hS1, hD1, ?_, ?_, added_ne hz hf⟩, hne, hlo, hlo', hbl.trans (ho.below hbl.size ?_)⟩
  · intro k e
    rcases hr with hr | hr
    · exact h1 k (hr ▸ e)
    · have h3 := hr k e
      exact ⟨by have := hbl.size; omega, fun q => by have := hD.lt; omega⟩
  · intro a e
    refine ⟨(h2 a e).1, (h2 a e).2.1, fun q => ?_⟩
    rcases hr with hr | hr
    · exact (h2 a e).2.2 (hr ▸ q)
    · have h3 := hr a.block q
      have h4 := (hD.ne a e).2
      omega
  · rintro k (rfl | e)
    · exact hlo
    · exact (h1 k e.symm).1
theorem Duo.addD {W0 W : World} {f g : Int} {l : List Spn} {L : List Int} {sb db : Nat} (h : Duo W0 W f l sb g L db) (hs : Srt (-1) L) (hl : L.length ≤ 900) (x : Int) :
    Calls Try.prog 10 #[.pointer (some ⟨db, 0, none⟩), .int .i64 x] W fun e W' => e = .returned (.bool (docAdd L g x).1) ∧ Duo W0 W' f l sb (docAdd L g x).2.2 (docAdd L g x).2.1 db := by
  obtain ⟨⟨A, c, B, d, hS, hD, h1, h2, hz⟩, hne, hlo, hlo', hbl⟩ := h
  refine (dadd_calls hD hs hl).mono ?_
  rintro e W' ⟨B1, d1, rfl, hD1, ho, hr⟩
  have hS1 : St W' sb A c f l := hS.only ho (fun q => hne q) (fun k e q => (h1 k e).2 q)
  refine ⟨rfl, ⟨A, c, B1, d1, hS1, hD1, h1, ?_, hz⟩, hne, hlo, hlo', hbl.trans (ho.below hbl.size ?_)⟩
  · intro a e
    rcases hr with hr | hr
    · exact h2 a (hr ▸ e)
    · have h3 := hr a e
      exact ⟨by have := hbl.size; omega, fun q => by have := hS.lt; omega, fun q => by have := hS.row.lt _ q; omega⟩
  · rintro k rfl
    exact hlo'
theorem Duo.spansS {W0 W : World} {f g : Int} {l : List Spn} {L : List Int} {sb db : Nat} (h : Duo W0 W f l sb g L db) (hl : l.length ≤ 1000) :
    Calls Try.prog 8 #[.pointer (some ⟨sb, 0, none⟩)] W fun e W' => ∃ A' c', e = .returned (.slice A' l.length c') ∧ Row W' A' c' l.reverse ∧ Duo W0 W' f l sb g L db ∧ Below W.heap.size W W' := by
  have h' := h
  obtain ⟨⟨A, c, B, d, hS, hD, h1, h2, hz⟩, hne, hlo, hlo', hbl⟩ := h
  refine (spans_calls hS hz hl).mono ?_
  rintro e W' ⟨A1, c1, rfl, hR, _, hb⟩
  exact ⟨A1, c1, by rw [List.length_reverse], hR, h'.below hb, hb⟩
theorem Duo.spansD {W0 W : World} {f g : Int} {l : List Spn} {L : List Int} {sb db : Nat} (h : Duo W0 W f l sb g L db) (hs : Srt (-1) L) (hl : L.length ≤ 1000) :
    Calls Try.prog 12 #[.pointer (some ⟨db, 0, none⟩)] W fun e W' => ∃ A' c', e = .returned (.slice A' (spn L).length c') ∧ Row W' A' c' (spn L).reverse ∧ Duo W0 W' f l sb g L db ∧ Below W.heap.size W W' := by
  have h' := h
  obtain ⟨⟨A, c, B, d, hS, hD, h1, h2, hz⟩, hne, hlo, hlo', hbl⟩ := h
  refine (dspans_calls hD hs hl).mono ?_
  rintro e W' ⟨A1, c1, rfl, hR, _, hb⟩
  exact ⟨A1, c1, by rw [List.length_reverse], hR, h'.below hb, hb⟩
theorem Duo.floor {W0 W : World} {f g : Int} {l : List Spn} {L : List Int} {sb db : Nat} (h : Duo W0 W f l sb g L db) :
    Calls Try.prog 13 #[.pointer (some ⟨sb, 0, none⟩)] W fun e w' => e = .returned (.int .i64 f) ∧ w' = W := by
  obtain ⟨⟨A, c, B, d, hS, hD, h1, h2, hz⟩, hne, hlo, hlo', hbl⟩ := h
  exact floor_calls hS
theorem Duo.cell {W0 W : World} {f g : Int} {l : List Spn} {L : List Int} {sb db : Nat} (h : Duo W0 W f l sb g L db) : W.cell? ⟨db, 1, none⟩ = some (.int .i64 g) := by
  obtain ⟨⟨A, c, B, d, hS, hD, h1, h2, hz⟩, hne, hlo, hlo', hbl⟩ := h
  exact hD.cells.2
theorem Duo.hasS {W0 W : World} {f g : Int} {l : List Spn} {L : List Int} {sb db : Nat} (h : Duo W0 W f l sb g L db) (hA : Asc l) (hl : l.length ≤ 1000) (x : Int) :
    Calls Try.prog 14 #[.pointer (some ⟨sb, 0, none⟩), .int .i64 x] W fun e W' => e = .returned (.bool (hs l x)) ∧ Duo W0 W' f l sb g L db := by
  have h' := h
  obtain ⟨⟨A, c, B, d, hS, hD, h1, h2, hz⟩, hne, hlo, hlo', hbl⟩ := h
  refine (has_calls hS hA hl).mono ?_
  rintro e W' ⟨rfl, hb⟩
  exact ⟨rfl, h'.below hb⟩
theorem Duo.hasD {W0 W : World} {f g : Int} {l : List Spn} {L : List Int} {sb db : Nat} (h : Duo W0 W f l sb g L db) (hl : L.length ≤ 1000) (x : Int) :
    Calls Try.prog 15 #[.pointer (some ⟨db, 0, none⟩), .int .i64 x] W fun e W' => e = .returned (.bool (decide (x ∈ L))) ∧ W' = W := by
  obtain ⟨⟨A, c, B, d, hS, hD, h1, h2, hz⟩, hne, hlo, hlo', hbl⟩ := h
  exact dhas_calls hD hl
end Go.Proofs.Ytpihkmpcnkhnfaa.Sp
