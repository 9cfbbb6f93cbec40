/- Rows of spans: what they hold, what copy, append and clear leave of them. -/
import Derived.Test.YtpihkmpcnkhnfaaOnl
import Derived.Lib.AppendZerosOnto
import Derived.Lib.SliceRun
import Derived.Lib.JoinLaws
import Derived.Lib.Overlaps
import Derived.Laws.IdiomCopy
import Derived.Lib.SlFresh
import Derived.WalkKit
namespace Go.Proofs.Ytpihkmpcnkhnfaa.Sp
open Go Go.RowKit Go.Lib
open Go.Proofs.Ytpihkmpcnkhnfaa.Onl (Only)
set_option linter.unusedVariables false
set_option linter.unusedSimpArgs false

abbrev Spn := Int × Int
/-- The cells of spans. -/
def enc (l : List Spn) : List Value := l.flatMap fun s => [.int .i64 s.1, .int .i64 s.2]
theorem enc_nil : enc [] = [] := rfl
theorem enc_cons (s : Spn) (l : List Spn) : enc (s :: l) = .int .i64 s.1 :: .int .i64 s.2 :: enc l := rfl
theorem enc_length (l : List Spn) : (enc l).length = 2 * l.length := by
  induction l with
  | nil => rfl
  | cons s l ih => rw [enc_cons]; simp only [List.length_cons, ih]; omega
theorem enc_append (a b : List Spn) : enc (a ++ b) = enc a ++ enc b := by simp [enc]
theorem enc_one (l : List Spn) : ∀ v ∈ enc l, v.oneCell' = true := by
  intro v hv
  unfold enc at hv
  obtain ⟨s, _, h⟩ := List.mem_flatMap.1 hv
  rcases List.mem_cons.1 h with rfl | h
  · rfl
  · rcases List.mem_cons.1 h with rfl | h
    · rfl
    · cases h
theorem enc_take : ∀ (l : List Spn) (k : Nat), enc (l.take k) = (enc l).take (2 * k)
  | [], k => by simp [enc]
  | s :: l, 0 => by simp [enc]
  | s :: l, k + 1 => by rw [List.take_succ_cons, enc_cons, enc_cons, enc_take l k, show 2 * (k + 1) = 2 * k + 1 + 1 by omega, List.take_succ_cons, List.take_succ_cons]
theorem enc_drop : ∀ (l : List Spn) (k : Nat), enc (l.drop k) = (enc l).drop (2 * k)
  | [], k => by simp [enc]
  | s :: l, 0 => by simp
  | s :: l, k + 1 => by rw [List.drop_succ_cons, enc_cons, enc_drop l k, show 2 * (k + 1) = 2 * k + 1 + 1 by omega, List.drop_succ_cons, List.drop_succ_cons]
theorem enc_at (l : List Spn) (i : Nat) (h : i < l.length) : (enc l)[2 * i]? = some (.int .i64 l[i].1) ∧ (enc l)[2 * i + 1]? = some (.int .i64 l[i].2) := by
  have e : enc l = enc (l.take i) ++ enc (l[i] :: l.drop (i + 1)) := by rw [← enc_append, ← List.drop_eq_getElem_cons h, List.take_append_drop]
  have hl : (enc (l.take i)).length = 2 * i := by rw [enc_length, List.length_take]; omega
  rw [e, enc_cons]
  constructor
  · rw [List.getElem?_append_right (by omega), hl]; simp
  · rw [List.getElem?_append_right (by omega), hl]; simp

/-- A block of c spans' room at off, whose first cells are l's. -/
structure RowAt (W : World) (b off c : Nat) (l : List Spn) : Prop where
  blk : ∃ cs t, W.heap[b]? = some (.cells cs t (0, 0)) ∧ off + 2 * c ≤ cs.size ∧ 0 < cs.size
  at_ : ∀ (j : Nat) (v : Value), (enc l)[j]? = some v → W.cell? ⟨b, off + j, none⟩ = some v
  le : l.length ≤ c
  cap : c ≤ 9223372036854775807
theorem RowAt.lt {W : World} {b off c : Nat} {l : List Spn} (h : RowAt W b off c l) : b < W.heap.size := by
  obtain ⟨cs, t, hb, _⟩ := h.blk
  exact (Array.getElem?_eq_some_iff.1 hb).1
theorem RowAt.fz {W : World} {b off c : Nat} {l : List Spn} (h : RowAt W b off c l) (j : Nat) : W.frozen? ⟨b, j, none⟩ = false := by
  obtain ⟨cs, t, hb, _⟩ := h.blk
  simp [World.frozen?, hb]
theorem RowAt.is {W : World} {b off c : Nat} {l : List Spn} (h : RowAt W b off c l) (j : Nat) (hj : j < 2 * c) : (W.cell? ⟨b, off + j, none⟩).isSome = true := by
  obtain ⟨cs, t, hb, hs, _⟩ := h.blk
  have : off + j < cs.size := by omega
  simp [World.cell?, hb, this]
theorem RowAt.shape {W : World} {b off c : Nat} {l : List Spn} (h : RowAt W b off c l) : ∃ t k, W.shape? b = some (t, k) ∧ k ≠ 0 := by
  obtain ⟨cs, t, hb, _, h0⟩ := h.blk
  exact ⟨t, cs.size, by simp [World.shape?, hb], by omega⟩
theorem RowAt.move {W W' : World} {b off c : Nat} {l : List Spn} (h : RowAt W b off c l) (e : W'.heap[b]? = W.heap[b]?) : RowAt W' b off c l := by
  obtain ⟨cs, t, hb, hs⟩ := h.blk
  exact ⟨⟨cs, t, e.trans hb, hs⟩, fun j v hj => (World.cell?_of_block (w := W) (a := ⟨b, off + j, none⟩) e).trans (h.at_ j v hj), h.le, h.cap⟩
theorem RowAt.get {W : World} {b off c : Nat} {l : List Spn} (h : RowAt W b off c l) (i : Nat) (hi : i < l.length) : W.cell? ⟨b, off + 2 * i, none⟩ = some (.int .i64 l[i].1) ∧ W.cell? ⟨b, off + (2 * i + 1), none⟩ = some (.int .i64 l[i].2) :=
  ⟨h.at_ _ _ (enc_at l i hi).1, h.at_ _ _ (enc_at l i hi).2⟩
theorem RowAt.drop1 {W : World} {b off c : Nat} {s : Spn} {l : List Spn} (h : RowAt W b off (c + 1) (s :: l)) : RowAt W b (off + 2) c l := by
  obtain ⟨cs, t, hb, hs⟩ := h.blk
  refine ⟨⟨cs, t, hb, by omega, by omega⟩, fun j v hj => ?_, by have := h.le; simp at this; omega, by have := h.cap; omega⟩
  have := h.at_ (j + 1 + 1) v (by rw [enc_cons]; simpa using hj)
  rwa [show off + (j + 1 + 1) = off + 2 + j by omega] at this

/-- Cells of a block are written: it stays a block of that many. -/
theorem heap_setCell_at {W : World} {b o : Nat} {v : Value} {cs : Array Value} {t : TypeId} {fr : Nat × Nat} (hb : W.heap[b]? = some (.cells cs t fr)) :
    (W.setCell ⟨b, o, none⟩ v).heap[b]? = some (.cells (cs.setIfInBounds o v) t fr) := by
  rw [setCell_eq_setRow W b o cs t fr v hb]
  exact setRow_heap W b cs _ t fr hb
theorem heap_setCells_at {b : Nat} {t : TypeId} {fr : Nat × Nat} : ∀ (vs : List Value) (W : World) (o : Nat) (cs : Array Value), W.heap[b]? = some (.cells cs t fr) → ∃ cs', (W.setCells b o vs).heap[b]? = some (.cells cs' t fr) ∧ cs'.size = cs.size
  | [], W, o, cs, h => ⟨cs, h, rfl⟩
  | v :: vs, W, o, cs, h => by
    obtain ⟨cs', h1, h2⟩ := heap_setCells_at vs (W.setCell ⟨b, o, none⟩ v) (o + 1) _ (heap_setCell_at h)
    exact ⟨cs', h1, by rw [h2]; simp⟩
theorem only_setCells (b : Nat) : ∀ (vs : List Value) (W : World) (o : Nat), Only (fun k => k = b) W (W.setCells b o vs)
  | [], W, o => Only.refl _ W
  | v :: vs, W, o => ((Only.refl (fun k => k = b) W).setCell (ad := ⟨b, o, none⟩) rfl v).trans (only_setCells b vs _ _)

/-- A piece is written over: at place k, the spans m. -/
theorem RowAt.put {W : World} {b off c : Nat} {l : List Spn} (h : RowAt W b off c l) (k : Nat) (m : List Spn) (hk : k ≤ l.length) (hm : k + m.length ≤ c) :
    RowAt (W.setCells b (off + 2 * k) (enc m)) b off c (l.take k ++ m ++ l.drop (k + m.length)) := by
  obtain ⟨cs, t, hb, hs, h0⟩ := h.blk
  obtain ⟨cs', hb', hs'⟩ := heap_setCells_at (b := b) (enc m) W (off + 2 * k) cs hb
  refine ⟨⟨cs', t, hb', by omega, by omega⟩, fun j v hj => ?_, by have := h.le; simp; omega, h.cap⟩
  have hlt : (enc (l.take k)).length = 2 * k := by rw [enc_length, List.length_take]; omega
  have hlm := enc_length m
  rw [enc_append, enc_append] at hj
  by_cases h1 : j < 2 * k
  · rw [World.cell?_setCells_out _ _ _ _ _ (fun _ _ => Or.inl (by show off + j < off + 2 * k; omega))]
    rw [List.getElem?_append_left (by rw [List.length_append]; omega), List.getElem?_append_left (by omega), enc_take, List.getElem?_take_of_lt h1] at hj
    exact h.at_ j v hj
  · by_cases h2 : j < 2 * k + 2 * m.length
    · rw [List.getElem?_append_left (by rw [List.length_append]; omega), List.getElem?_append_right (by omega), hlt] at hj
      obtain ⟨hlt2, e⟩ := List.getElem?_eq_some_iff.1 hj
      have := World.cell?_setCells_in b (enc m) (off + 2 * k) W (fun i hi => by rw [Nat.add_assoc]; exact h.is _ (by omega)) (j - 2 * k) hlt2
      rw [show off + 2 * k + (j - 2 * k) = off + j by omega, e] at this
      exact this
    · rw [World.cell?_setCells_out _ _ _ _ _ (fun _ _ => Or.inr (by show off + 2 * k + (enc m).length ≤ off + j; omega))]
      rw [List.getElem?_append_right (by rw [List.length_append]; omega), List.length_append, hlt, hlm, enc_drop, List.getElem?_drop, show 2 * (k + m.length) + (j - (2 * k + 2 * m.length)) = j by omega] at hj
      exact h.at_ j v hj
/-- Fewer are looked at. -/
theorem RowAt.short {W : World} {b off c : Nat} {l : List Spn} (h : RowAt W b off c l) (n : Nat) : RowAt W b off c (l.take n) := by
  refine ⟨h.blk, fun j v hj => h.at_ j v ?_, by have := h.le; simp; omega, h.cap⟩
  rw [enc_take] at hj
  by_cases hn : j < 2 * n
  · rwa [List.getElem?_take_of_lt hn] at hj
  · rw [List.getElem?_take_eq_none (by omega)] at hj; cases hj
/-- A new block. -/
theorem RowAt.new (W : World) (c : Nat) (l : List Spn) (rest : List Value) (t : TypeId) (hl : l.length ≤ c) (hc : c ≤ 9223372036854775807) (h0 : 0 < c) (hr : rest.length = 2 * (c - l.length)) :
    RowAt (W.alloc (.cells (enc l ++ rest).toArray t)) W.heap.size 0 c l := by
  have hs : ((enc l ++ rest).toArray).size = 2 * c := by have := enc_length l; simp; omega
  refine ⟨⟨(enc l ++ rest).toArray, t, World.alloc_heap_new _ _, by omega, by omega⟩, fun j v hj => ?_, hl, hc⟩
  rw [World.cell?_alloc_at _ _ _ _ rfl]
  obtain ⟨hlt, _⟩ := List.getElem?_eq_some_iff.1 hj
  rw [Nat.zero_add, List.getElem?_toArray, List.getElem?_append_left hlt]
  exact hj

theorem info_span : (Try.prog.info? 30).map (fun i => (i.zero, i.size, i.bytes)) = some (some (.agg #[.int .i64 0, .int .i64 0]), 2, 16) := by kernel_rfl
theorem slice_span : Try.prog.underlying 24 = some (.slice 30) := Try.underlying24

section
variable {P : Program}
/-- copy, elements of any size. -/
theorem run_copy_sized (w : World) (dT sT ty elem : TypeId) (i : TypeInfo) (b o dLen dCap : Nat) (a : Addr) (sLen sCap : Nat) (cs : List Value)
    (hu : P.underlying dT = some (.slice elem)) (hi : P.info? elem = some i) (hn : cs.length = Nat.min sLen dLen * i.size)
    (hsrc : ∀ j v, cs[j]? = some v → w.cell? (a.add j) = some v) (hc : ∀ j, j < cs.length → (w.cell? ⟨b, o + j, none⟩).isSome = true) (hf : ∀ j, j < cs.length → w.frozen? ⟨b, o + j, none⟩ = false) (h1 : ∀ v ∈ cs, v.oneCell' = true) :
    (Builtin.copy_ #[dT, sT] ty #[.slice (some ⟨b, o, none⟩) dLen dCap, .slice (some a) sLen sCap]).run P w = .ok (goInt (Nat.min sLen dLen)) (w.setCells b o cs) := by
  have hl := run_loadCells_list (P := P) w a cs hsrc
  have hst := run_storeCells_cells (P := P) b o cs 0 w (by simpa using hc) (by simpa using hf) h1
  simp [Builtin.copy_, run_underlying hu, Builtin.lenOf, Builtin.firstCells, sizeOf, typeInfo, hi, ← hn, hl, hst]
end
/-- copy of spans m into place k of a row: they lie at a. -/
theorem run_copy_spans {W : World} {b off c : Nat} {l : List Spn} (h : RowAt W b off c l) (k dl dc : Nat) (a : Addr) (sl sc : Nat) (m : List Spn) (hm : m.length = Nat.min sl dl) (hk : k + m.length ≤ c) (ha : ∀ (j : Nat) (v : Value), (enc m)[j]? = some v → W.cell? (a.add j) = some v) (ty : TypeId) :
    (Builtin.copy_ #[24, 24] ty #[.slice (some ⟨b, off + 2 * k, none⟩) dl dc, .slice (some a) sl sc]).run Try.prog W = .ok (goInt m.length) (W.setCells b (off + 2 * k) (enc m)) := by
  obtain ⟨i, hi, hz, hs, hb⟩ := info_parts info_span
  have := run_copy_sized (P := Try.prog) W 24 24 ty 30 i b (off + 2 * k) dl dc a sl sc (enc m) slice_span hi (by rw [enc_length, hs, hm]; omega) ha
    (fun j hj => by rw [enc_length] at hj; rw [Nat.add_assoc]; exact h.is _ (by omega)) (fun j hj => h.fz _) (enc_one m)
  rw [this, hm]
theorem run_copy_no {W : World} (d a : Option Addr) (dl dc sl sc : Nat) (hn : Nat.min sl dl = 0) (ty : TypeId) :
    (Builtin.copy_ #[24, 24] ty #[.slice d dl dc, .slice a sl sc]).run Try.prog W = .ok (goInt 0) W := by
  obtain ⟨i, hi, hz, hs, hb⟩ := info_parts info_span
  have hl : ∀ (x : Addr), (loadCells x 0).run Try.prog W = .ok #[] W := fun x => by simpa using run_loadCells_list (P := Try.prog) W x [] (by simp)
  cases d <;> cases a <;> simp [Builtin.copy_, run_underlying slice_span, Builtin.lenOf, Builtin.firstCells, sizeOf, typeInfo, hi, hn, storeCells, hl]
/-- clear of n spans from place k on. -/
theorem run_clear_spans {W : World} {b off c : Nat} {l : List Spn} (h : RowAt W b off c l) (k n cc : Nat) (hn : 0 < n) (hk : k + n ≤ c) (ty : TypeId) :
    (Builtin.clear_ #[24] ty #[.slice (some ⟨b, off + 2 * k, none⟩) n cc]).run Try.prog W = .ok (.tuple #[]) (W.setCells b (off + 2 * k) (enc (List.replicate n (0, 0)))) := by
  obtain ⟨i, hi, hz, hs, hb⟩ := info_parts info_span
  have hv : ∀ w, (zeroValue 30).run Try.prog w = .ok (.agg #[.int .i64 0, .int .i64 0]) w := fun w => by simp [zeroValue, typeInfo, hi, hz]
  have hzc : (Builtin.zeroCells (Value.agg #[.int .i64 0, .int .i64 0]).cells n).toList = enc (List.replicate n (0, 0)) := by
    have : ∀ n, enc (List.replicate n (0, 0)) = List.replicate (2 * n) (Value.int .i64 0) := by
      intro n
      induction n with
      | zero => rfl
      | succ n ih => rw [List.replicate_succ, enc_cons, ih, show 2 * (n + 1) = 2 * n + 1 + 1 by omega, List.replicate_succ, List.replicate_succ]
    rw [this]
    simp [Builtin.zeroCells, Value.cells]
    apply List.ext_getElem
    · simp; omega
    · intro i h1 h2
      have : i % 2 = 0 ∨ i % 2 = 1 := by omega
      rcases this with e | e <;> simp [e]
  have hst := run_storeCells_cells (P := Try.prog) b (off + 2 * k) (enc (List.replicate n (0, 0))) 0 W (by intro j hj; rw [enc_length] at hj; simp at hj; rw [Nat.add_zero, Nat.add_assoc]; exact h.is _ (by omega)) (fun j _ => h.fz _) (enc_one _)
  simp only [Nat.add_zero] at hst
  obtain ⟨m, rfl⟩ : ∃ m, n = m + 1 := ⟨n - 1, by omega⟩
  simp [Builtin.clear_, run_underlying slice_span, hv, hzc, hst]
end Go.Proofs.Ytpihkmpcnkhnfaa.Sp
