/- A set of a law's own; awake. -/
import Derived.Test.YtpihkmpcnkhnfaaSp8
namespace Go.Proofs.Ytpihkmpcnkhnfaa.Sp
open Go Go.RowKit Go.Lib Go.Proofs.YtpihkmpcnkhnfaaW.PrintWords
open Go.Proofs.Ytpihkmpcnkhnfaa.Onl (Only)
set_option linter.unusedVariables false
set_option linter.unusedSimpArgs false

theorem added_ne {l : List Spn} {f x : Int} {A A' : Option Addr} (hz : A = none ∨ 0 < l.length) (hf : (addS l f x).1 = false → A' = A) : A' = none ∨ 0 < (addS l f x).2.1.length := by
  by_cases hm : may l f x = true
  · have hl : 0 < (put l x).length := by unfold put; simp; omega
    right
    unfold addS
    rw [if_pos hm]
    split
    · rename_i h; simp; omega
    · exact hl
  · have e : addS l f x = (false, l, f) := by unfold addS; rw [if_neg hm]
    rw [e] at hf ⊢
    rw [hf rfl]; exact hz
/-- A set of a law's own: nothing that was there before is its. -/
structure Own (W0 W : World) (f : Int) (l : List Spn) (sb : Nat) : Prop where
  st : ∃ A c, St W sb A c f l ∧ (∀ k, rb A = some k → W0.heap.size ≤ k) ∧ (A = none ∨ 0 < l.length)
  lo : W0.heap.size ≤ sb
  bl : Below W0.heap.size W0 W
theorem alloc_at (w : World) (o : Obj) : (w.alloc o).heap[w.heap.size]? = some o := by
  show (w.heap.push o)[w.heap.size]? = some o
  exact Array.getElem?_push_size
theorem Own.new (w : World) : Own w (w.alloc (.cells #[.slice none 0 0, .int .i64 0] 26)) 0 [] w.heap.size :=
  ⟨⟨none, 0, ⟨alloc_at _ _, .inl ⟨rfl, rfl, rfl⟩, by intro a e; cases e⟩, (fun k e => by cases e), .inl rfl⟩, Nat.le_refl _, (Below.refl _ _).alloc (Nat.le_refl _) _⟩
theorem Own.drewN {W0 W : World} {f : Int} {l : List Spn} {sb : Nat} (h : Own W0 W f l sb) (n : Nat) : Own W0 (W.drewN n) f l sb := by
  obtain ⟨⟨A, c, hS, hn, hz⟩, hlo, hbl⟩ := h
  exact ⟨⟨A, c, hS.drewN n, hn, hz⟩, hlo, ⟨hbl.os, hbl.tape, hbl.output, hbl.size, hbl.block⟩⟩
theorem Own.below {W0 W W' : World} {f : Int} {l : List Spn} {sb : Nat} (h : Own W0 W f l sb) (hb : Below W.heap.size W W') : Own W0 W' f l sb := by
  obtain ⟨⟨A, c, hS, hn, hz⟩, hlo, hbl⟩ := h
  exact ⟨⟨A, c, hS.below hb, hn, hz⟩, hlo, hbl.trans (hb.mono hbl.size)⟩
theorem Own.add {W0 W : World} {f : Int} {l : List Spn} {sb : Nat} (h : Own W0 W f l sb) (hA : Asc l) (hBd : Bd l) (hl : l.length ≤ 100) {x : Int} {r : Bool} {l' : List Spn} {f' : Int} (hx : addS l f x = (r, l', f')) :
    Calls Try.prog 7 #[.pointer (some ⟨sb, 0, none⟩), .int .i64 x] W fun e W' => e = .returned (.bool r) ∧ Own W0 W' f' l' sb := by
  obtain ⟨⟨A, c, hS, hn, hz⟩, hlo, hbl⟩ := h
  refine (add_calls hS hA hBd hl).mono ?_
  rintro e W' ⟨A', c', rfl, hS', ho, hr, hf⟩
  have hz' := added_ne hz hf
  rw [hx] at hS' hz'
  rw [hx]
  refine ⟨rfl, ⟨A', c', hS', ?_, hz'⟩, hlo, hbl.trans (ho.below hbl.size ?_)⟩
  · intro k e
    rcases hr with hr | hr
    · exact hn k (hr ▸ e)
    · have := hr k e; have := hbl.size; omega
  · rintro k (rfl | e)
    · exact hlo
    · exact hn k e.symm
theorem Own.spans {W0 W : World} {f : Int} {l : List Spn} {sb : Nat} (h : Own W0 W f l sb) (hp : 0 < l.length) (hl : l.length ≤ 1000) :
    Calls Try.prog 8 #[.pointer (some ⟨sb, 0, none⟩)] W fun e W' => ∃ A' c', e = .returned (.slice A' l.length c') ∧ Row W' A' c' l.reverse ∧ Own W0 W' f l sb := by
  obtain ⟨⟨A, c, hS, hn, hz⟩, hlo, hbl⟩ := h
  refine (spans_calls hS (.inr hp) hl).mono ?_
  rintro e W' ⟨A', c', rfl, hR, _, hb⟩
  exact ⟨A', c', by rw [List.length_reverse], hR, ⟨A, c, hS.below hb, hn, hz⟩, hlo, hbl.trans (hb.mono hbl.size)⟩
theorem Own.spans0 {W0 W : World} {f : Int} {l : List Spn} {sb : Nat} (h : Own W0 W f l sb) (hl : l.length ≤ 1000) :
    Calls Try.prog 8 #[.pointer (some ⟨sb, 0, none⟩)] W fun e W' => ∃ A' c', e = .returned (.slice A' l.length c') ∧ Row W' A' c' l.reverse ∧ (A' = none ∨ ∃ b, A' = some ⟨b, 0, none⟩ ∧ W.heap.size ≤ b) ∧ Below W.heap.size W W' := by
  obtain ⟨⟨A, c, hS, hn, hz⟩, hlo, hbl⟩ := h
  refine (spans_calls hS hz hl).mono ?_
  rintro e W' ⟨A', c', rfl, hR, hA, hb⟩
  exact ⟨A', c', by rw [List.length_reverse], hR, hA, hb⟩
theorem Own.setFresh {W0 W W' : World} {f : Int} {l : List Spn} {sb : Nat} (h : Own W0 W f l sb) (hb : Below W.heap.size W W') {b : Nat} (hB : W.heap.size ≤ b) (j : Nat) (v : Value) : Own W0 (W'.setCell ⟨b, j, none⟩ v) f l sb := by
  obtain ⟨⟨A, c, hS, hn, hz⟩, hlo, hbl⟩ := h
  have ho : Only (fun k => k = b) W (W'.setCell ⟨b, j, none⟩ v) := Only.setCell (p := fun k => k = b) (Only.of_below hb) (ad := ⟨b, j, none⟩) rfl v
  exact ⟨⟨A, c, hS.only ho (fun q => by have := hS.lt; omega) (fun k e q => by have := hS.row.lt k e; omega), hn, hz⟩, hlo, hbl.trans (ho.below hbl.size (fun k q => by have := hbl.size; omega))⟩
theorem Own.floor {W0 W : World} {f : Int} {l : List Spn} {sb : Nat} (h : Own W0 W f l sb) :
    Calls Try.prog 13 #[.pointer (some ⟨sb, 0, none⟩)] W fun e w' => e = .returned (.int .i64 f) ∧ w' = W := by
  obtain ⟨⟨A, c, hS, hn, hz⟩, hlo, hbl⟩ := h
  exact floor_calls hS

theorem E1 : addS [] 0 1 = (true, [(1, 1)], 0) := by decide
theorem E2 : addS [(1, 1)] 0 3 = (true, [(1, 1), (3, 3)], 0) := by decide
theorem E3 : addS [(1, 1), (3, 3)] 0 2 = (true, [(1, 3)], 0) := by decide
theorem E4 : addS [(1, 3)] 0 2 = (false, [(1, 3)], 0) := by decide

/-- A fresh row of one span. -/
theorem row_one (w : World) (u v : Int) (t : TypeId) : Row (w.alloc (.cells #[.int .i64 u, .int .i64 v] t)) (some ⟨w.heap.size, 0, none⟩) 1 [(u, v)] := by
  refine .inr ⟨w.heap.size, 0, rfl, ⟨⟨_, t, alloc_at _ _, Nat.le_refl _, Nat.succ_pos _⟩, ?_, by simp, by omega⟩⟩
  intro j v' h
  have hc : (w.alloc (.cells #[.int .i64 u, .int .i64 v] t)).heap[w.heap.size]? = some (.cells #[.int .i64 u, .int .i64 v] t (0, 0)) := alloc_at _ _
  rw [cell_of hc, Nat.zero_add]
  rcases j with _ | _ | j
  · simpa [enc] using h
  · simpa [enc] using h
  · simp [enc] at h

set_option maxHeartbeats 4000000 in
set_option maxRecDepth 100000 in
theorem awake_calls (w : World) : Calls Try.prog 9 #[] w fun e w' => e = .returned (.bool true) ∧ Below w.heap.size w w' := by
  have T0 := Aside0.mk (Own.new w)
  have HT := Aside0.mk (fun (w4 : World) (A4 : Option Addr) (c4 : Nat) (h : Row w4 A4 c4 [(1, 3)]) (t : TypeId) (n : Nat) => told_calls (l := [(1, 3)]) (l' := [(1, 3)]) (W := (w4.alloc (.cells #[.int .i64 1, .int .i64 3] t)).drewN n) ((h.move (W' := (w4.alloc (.cells #[.int .i64 1, .int .i64 3] t)).drewN n) (fun k e => Below.heap_alloc _ _ k (h.lt k e)))) ((row_one w4 1 3 t).move (fun k e => rfl)) (by decide))
  go_enter Try.func9, Try.ntmps9
  go_wp2_with (first
    | (go_at_call 7; refine (T0.out.add (by simp [Asc]) (by simp [Bd]) (by decide) E1).mono ?_; rintro e1 w1 ⟨rfl, hT⟩; have T1 := Aside0.mk hT; clear hT T0)
    | (go_at_call 7; refine (T1.out.add (by simp [Asc]) (by simp [Bd]) (by decide) E2).mono ?_; rintro e2 w2 ⟨rfl, hT⟩; have T2 := Aside0.mk hT; clear hT T1)
    | (go_at_call 7; refine (T2.out.add (by simp [Asc]) (by simp [Bd]) (by decide) E3).mono ?_; rintro e3 w3 ⟨rfl, hT⟩; have T3 := Aside0.mk hT; clear hT T2)
    | (go_at_call 7; refine (T3.out.add (by simp [Asc]) (by simp [Bd]) (by decide) E4).mono ?_; rintro e4 w4 ⟨rfl, hT⟩; have T4 := Aside0.mk hT; clear hT T3)
    | (go_at_call 8; refine (T4.out.spans (by decide) (by decide)).mono ?_; rintro e5 w5 ⟨A5, c5, rfl, hR, hT⟩; have T5 := Aside0.mk hT; have R5 := Aside0.mk hR; clear hT hR T4)
    | (go_at_call 11; refine (HT.out _ _ _ R5.out _ 0).mono ?_; rintro e6 w6 ⟨rfl, q, rfl⟩))
  go_ret
  exact ⟨rfl, ((T5.out.bl.alloc T5.out.bl.size _).trans ⟨rfl, rfl, rfl, Nat.le_refl _, fun _ _ => rfl⟩)⟩
end Go.Proofs.Ytpihkmpcnkhnfaa.Sp
