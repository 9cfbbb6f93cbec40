/- A part of the proof of the law FrameReads: Fd6, Fd7. -/
import Derived.Test.YtbcleckapamicaaDoorZFrd10
namespace Go.Proofs.YtbcleckapamicaaDoor.Fd
open Go Go.RowKit Go.Proofs.YtbcleckapamicaaDoorW.PrintWords Go.Proofs.YtbcleckapamicaaDoorW.PrintLast Go.Proofs.YtbcleckapamicaaDoorW.PrintMore
open Go.Proofs.YtbcleckapamicaaDoor.QFr (S58 S103 k58 k103 frame_Right.calls)
open Go.Proofs.YtbcleckapamicaaDoor.Onl (Only)
open Go.Proofs.YtbcleckapamicaaDoor.Vn (vread vsize num)
set_option linter.unusedVariables false
set_option linter.unusedSimpArgs false
structure Tbl (w : World) (rb : Nat) : Prop where
  i0 : (Instr.mapUpdate 143 (.map (some (w.heap.size + 1))) (.int .u8 0) (.func (.func 97) #[.pointer (some ⟨rb, 0, none⟩)] #[])).run Tryd.prog ((w.alloc (.cells #[.int .i64 0, .int .i64 0, .slice none 0 0, .int .i64 0, .slice none 0 0, .int .i64 0] 58)).alloc (.map #[] 0)) = .ok () ((w.alloc (.cells #[.int .i64 0, .int .i64 0, .slice none 0 0, .int .i64 0, .slice none 0 0, .int .i64 0] 58)).alloc (.map #[{ key := .int .u8 0, val := .func (.func 97) #[.pointer (some ⟨rb, 0, none⟩)] #[], born := 0 }] 1))
  i1 : (Instr.mapUpdate 143 (.map (some (w.heap.size + 1))) (.int .u8 1) (.func (.func 98) #[.pointer (some ⟨rb, 0, none⟩)] #[])).run Tryd.prog ((w.alloc (.cells #[.int .i64 0, .int .i64 0, .slice none 0 0, .int .i64 0, .slice none 0 0, .int .i64 0] 58)).alloc (.map #[{ key := .int .u8 0, val := .func (.func 97) #[.pointer (some ⟨rb, 0, none⟩)] #[], born := 0 }] 1)) = .ok () ((w.alloc (.cells #[.int .i64 0, .int .i64 0, .slice none 0 0, .int .i64 0, .slice none 0 0, .int .i64 0] 58)).alloc (.map #[{ key := .int .u8 0, val := .func (.func 97) #[.pointer (some ⟨rb, 0, none⟩)] #[], born := 0 }, { key := .int .u8 1, val := .func (.func 98) #[.pointer (some ⟨rb, 0, none⟩)] #[], born := 1 }] 2))
  i2 : (Instr.mapUpdate 143 (.map (some (w.heap.size + 1))) (.int .u8 2) (.func (.func 99) #[.pointer (some ⟨rb, 0, none⟩)] #[])).run Tryd.prog ((w.alloc (.cells #[.int .i64 0, .int .i64 0, .slice none 0 0, .int .i64 0, .slice none 0 0, .int .i64 0] 58)).alloc (.map #[{ key := .int .u8 0, val := .func (.func 97) #[.pointer (some ⟨rb, 0, none⟩)] #[], born := 0 }, { key := .int .u8 1, val := .func (.func 98) #[.pointer (some ⟨rb, 0, none⟩)] #[], born := 1 }] 2)) = .ok () ((w.alloc (.cells #[.int .i64 0, .int .i64 0, .slice none 0 0, .int .i64 0, .slice none 0 0, .int .i64 0] 58)).alloc (.map #[{ key := .int .u8 0, val := .func (.func 97) #[.pointer (some ⟨rb, 0, none⟩)] #[], born := 0 }, { key := .int .u8 1, val := .func (.func 98) #[.pointer (some ⟨rb, 0, none⟩)] #[], born := 1 }, { key := .int .u8 2, val := .func (.func 99) #[.pointer (some ⟨rb, 0, none⟩)] #[], born := 2 }] 3))
  i3 : (Instr.mapUpdate 143 (.map (some (w.heap.size + 1))) (.int .u8 6) (.func (.func 100) #[.pointer (some ⟨rb, 0, none⟩)] #[])).run Tryd.prog ((w.alloc (.cells #[.int .i64 0, .int .i64 0, .slice none 0 0, .int .i64 0, .slice none 0 0, .int .i64 0] 58)).alloc (.map #[{ key := .int .u8 0, val := .func (.func 97) #[.pointer (some ⟨rb, 0, none⟩)] #[], born := 0 }, { key := .int .u8 1, val := .func (.func 98) #[.pointer (some ⟨rb, 0, none⟩)] #[], born := 1 }, { key := .int .u8 2, val := .func (.func 99) #[.pointer (some ⟨rb, 0, none⟩)] #[], born := 2 }] 3)) = .ok () ((w.alloc (.cells #[.int .i64 0, .int .i64 0, .slice none 0 0, .int .i64 0, .slice none 0 0, .int .i64 0] 58)).alloc (.map #[{ key := .int .u8 0, val := .func (.func 97) #[.pointer (some ⟨rb, 0, none⟩)] #[], born := 0 }, { key := .int .u8 1, val := .func (.func 98) #[.pointer (some ⟨rb, 0, none⟩)] #[], born := 1 }, { key := .int .u8 2, val := .func (.func 99) #[.pointer (some ⟨rb, 0, none⟩)] #[], born := 2 }, { key := .int .u8 6, val := .func (.func 100) #[.pointer (some ⟨rb, 0, none⟩)] #[], born := 3 }] 4))
  i4 : (Instr.mapUpdate 143 (.map (some (w.heap.size + 1))) (.int .u8 7) (.func (.func 101) #[.pointer (some ⟨rb, 0, none⟩)] #[])).run Tryd.prog ((w.alloc (.cells #[.int .i64 0, .int .i64 0, .slice none 0 0, .int .i64 0, .slice none 0 0, .int .i64 0] 58)).alloc (.map #[{ key := .int .u8 0, val := .func (.func 97) #[.pointer (some ⟨rb, 0, none⟩)] #[], born := 0 }, { key := .int .u8 1, val := .func (.func 98) #[.pointer (some ⟨rb, 0, none⟩)] #[], born := 1 }, { key := .int .u8 2, val := .func (.func 99) #[.pointer (some ⟨rb, 0, none⟩)] #[], born := 2 }, { key := .int .u8 6, val := .func (.func 100) #[.pointer (some ⟨rb, 0, none⟩)] #[], born := 3 }] 4)) = .ok () ((w.alloc (.cells #[.int .i64 0, .int .i64 0, .slice none 0 0, .int .i64 0, .slice none 0 0, .int .i64 0] 58)).alloc (.map #[{ key := .int .u8 0, val := .func (.func 97) #[.pointer (some ⟨rb, 0, none⟩)] #[], born := 0 }, { key := .int .u8 1, val := .func (.func 98) #[.pointer (some ⟨rb, 0, none⟩)] #[], born := 1 }, { key := .int .u8 2, val := .func (.func 99) #[.pointer (some ⟨rb, 0, none⟩)] #[], born := 2 }, { key := .int .u8 6, val := .func (.func 100) #[.pointer (some ⟨rb, 0, none⟩)] #[], born := 3 }, { key := .int .u8 7, val := .func (.func 101) #[.pointer (some ⟨rb, 0, none⟩)] #[], born := 4 }] 5))
  i5 : (Instr.mapUpdate 143 (.map (some (w.heap.size + 1))) (.int .u8 8) (.func (.func 102) #[.pointer (some ⟨rb, 0, none⟩)] #[])).run Tryd.prog ((w.alloc (.cells #[.int .i64 0, .int .i64 0, .slice none 0 0, .int .i64 0, .slice none 0 0, .int .i64 0] 58)).alloc (.map #[{ key := .int .u8 0, val := .func (.func 97) #[.pointer (some ⟨rb, 0, none⟩)] #[], born := 0 }, { key := .int .u8 1, val := .func (.func 98) #[.pointer (some ⟨rb, 0, none⟩)] #[], born := 1 }, { key := .int .u8 2, val := .func (.func 99) #[.pointer (some ⟨rb, 0, none⟩)] #[], born := 2 }, { key := .int .u8 6, val := .func (.func 100) #[.pointer (some ⟨rb, 0, none⟩)] #[], born := 3 }, { key := .int .u8 7, val := .func (.func 101) #[.pointer (some ⟨rb, 0, none⟩)] #[], born := 4 }] 5)) = .ok () ((w.alloc (.cells #[.int .i64 0, .int .i64 0, .slice none 0 0, .int .i64 0, .slice none 0 0, .int .i64 0] 58)).alloc (.map #[{ key := .int .u8 0, val := .func (.func 97) #[.pointer (some ⟨rb, 0, none⟩)] #[], born := 0 }, { key := .int .u8 1, val := .func (.func 98) #[.pointer (some ⟨rb, 0, none⟩)] #[], born := 1 }, { key := .int .u8 2, val := .func (.func 99) #[.pointer (some ⟨rb, 0, none⟩)] #[], born := 2 }, { key := .int .u8 6, val := .func (.func 100) #[.pointer (some ⟨rb, 0, none⟩)] #[], born := 3 }, { key := .int .u8 7, val := .func (.func 101) #[.pointer (some ⟨rb, 0, none⟩)] #[], born := 4 }, { key := .int .u8 8, val := .func (.func 102) #[.pointer (some ⟨rb, 0, none⟩)] #[], born := 5 }] 6))
  i6 : (Instr.mapUpdate 143 (.map (some (w.heap.size + 1))) (.int .u8 28) (.func (.func 103) #[.pointer (some ⟨rb, 0, none⟩)] #[])).run Tryd.prog ((w.alloc (.cells #[.int .i64 0, .int .i64 0, .slice none 0 0, .int .i64 0, .slice none 0 0, .int .i64 0] 58)).alloc (.map #[{ key := .int .u8 0, val := .func (.func 97) #[.pointer (some ⟨rb, 0, none⟩)] #[], born := 0 }, { key := .int .u8 1, val := .func (.func 98) #[.pointer (some ⟨rb, 0, none⟩)] #[], born := 1 }, { key := .int .u8 2, val := .func (.func 99) #[.pointer (some ⟨rb, 0, none⟩)] #[], born := 2 }, { key := .int .u8 6, val := .func (.func 100) #[.pointer (some ⟨rb, 0, none⟩)] #[], born := 3 }, { key := .int .u8 7, val := .func (.func 101) #[.pointer (some ⟨rb, 0, none⟩)] #[], born := 4 }, { key := .int .u8 8, val := .func (.func 102) #[.pointer (some ⟨rb, 0, none⟩)] #[], born := 5 }] 6)) = .ok () ((w.alloc (.cells #[.int .i64 0, .int .i64 0, .slice none 0 0, .int .i64 0, .slice none 0 0, .int .i64 0] 58)).alloc (.map #[{ key := .int .u8 0, val := .func (.func 97) #[.pointer (some ⟨rb, 0, none⟩)] #[], born := 0 }, { key := .int .u8 1, val := .func (.func 98) #[.pointer (some ⟨rb, 0, none⟩)] #[], born := 1 }, { key := .int .u8 2, val := .func (.func 99) #[.pointer (some ⟨rb, 0, none⟩)] #[], born := 2 }, { key := .int .u8 6, val := .func (.func 100) #[.pointer (some ⟨rb, 0, none⟩)] #[], born := 3 }, { key := .int .u8 7, val := .func (.func 101) #[.pointer (some ⟨rb, 0, none⟩)] #[], born := 4 }, { key := .int .u8 8, val := .func (.func 102) #[.pointer (some ⟨rb, 0, none⟩)] #[], born := 5 }, { key := .int .u8 28, val := .func (.func 103) #[.pointer (some ⟨rb, 0, none⟩)] #[], born := 6 }] 7))
  i7 : (Instr.mapUpdate 143 (.map (some (w.heap.size + 1))) (.int .u8 30) (.func (.func 104) #[.pointer (some ⟨rb, 0, none⟩)] #[])).run Tryd.prog ((w.alloc (.cells #[.int .i64 0, .int .i64 0, .slice none 0 0, .int .i64 0, .slice none 0 0, .int .i64 0] 58)).alloc (.map #[{ key := .int .u8 0, val := .func (.func 97) #[.pointer (some ⟨rb, 0, none⟩)] #[], born := 0 }, { key := .int .u8 1, val := .func (.func 98) #[.pointer (some ⟨rb, 0, none⟩)] #[], born := 1 }, { key := .int .u8 2, val := .func (.func 99) #[.pointer (some ⟨rb, 0, none⟩)] #[], born := 2 }, { key := .int .u8 6, val := .func (.func 100) #[.pointer (some ⟨rb, 0, none⟩)] #[], born := 3 }, { key := .int .u8 7, val := .func (.func 101) #[.pointer (some ⟨rb, 0, none⟩)] #[], born := 4 }, { key := .int .u8 8, val := .func (.func 102) #[.pointer (some ⟨rb, 0, none⟩)] #[], born := 5 }, { key := .int .u8 28, val := .func (.func 103) #[.pointer (some ⟨rb, 0, none⟩)] #[], born := 6 }] 7)) = .ok () ((w.alloc (.cells #[.int .i64 0, .int .i64 0, .slice none 0 0, .int .i64 0, .slice none 0 0, .int .i64 0] 58)).alloc (.map #[{ key := .int .u8 0, val := .func (.func 97) #[.pointer (some ⟨rb, 0, none⟩)] #[], born := 0 }, { key := .int .u8 1, val := .func (.func 98) #[.pointer (some ⟨rb, 0, none⟩)] #[], born := 1 }, { key := .int .u8 2, val := .func (.func 99) #[.pointer (some ⟨rb, 0, none⟩)] #[], born := 2 }, { key := .int .u8 6, val := .func (.func 100) #[.pointer (some ⟨rb, 0, none⟩)] #[], born := 3 }, { key := .int .u8 7, val := .func (.func 101) #[.pointer (some ⟨rb, 0, none⟩)] #[], born := 4 }, { key := .int .u8 8, val := .func (.func 102) #[.pointer (some ⟨rb, 0, none⟩)] #[], born := 5 }, { key := .int .u8 28, val := .func (.func 103) #[.pointer (some ⟨rb, 0, none⟩)] #[], born := 6 }, { key := .int .u8 30, val := .func (.func 104) #[.pointer (some ⟨rb, 0, none⟩)] #[], born := 7 }] 8))
theorem Tbl.mk' (w : World) (rb : Nat) : Tbl w rb := by
  have h := fun es n k v hf => ins_run (w.alloc (.cells #[.int .i64 0, .int .i64 0, .slice none 0 0, .int .i64 0, .slice none 0 0, .int .i64 0] 58)) es n k v hf
  rw [World.size_alloc] at h
  exact ⟨h #[] 0 0 _ rfl, h #[{ key := .int .u8 0, val := .func (.func 97) #[.pointer (some ⟨rb, 0, none⟩)] #[], born := 0 }] 1 1 _ rfl, h #[{ key := .int .u8 0, val := .func (.func 97) #[.pointer (some ⟨rb, 0, none⟩)] #[], born := 0 }, { key := .int .u8 1, val := .func (.func 98) #[.pointer (some ⟨rb, 0, none⟩)] #[], born := 1 }] 2 2 _ rfl, h #[{ key := .int .u8 0, val := .func (.func 97) #[.pointer (some ⟨rb, 0, none⟩)] #[], born := 0 }, { key := .int .u8 1, val := .func (.func 98) #[.pointer (some ⟨rb, 0, none⟩)] #[], born := 1 }, { key := .int .u8 2, val := .func (.func 99) #[.pointer (some ⟨rb, 0, none⟩)] #[], born := 2 }] 3 6 _ rfl, h #[{ key := .int .u8 0, val := .func (.func 97) #[.pointer (some ⟨rb, 0, none⟩)] #[], born := 0 }, { key := .int .u8 1, val := .func (.func 98) #[.pointer (some ⟨rb, 0, none⟩)] #[], born := 1 }, { key := .int .u8 2, val := .func (.func 99) #[.pointer (some ⟨rb, 0, none⟩)] #[], born := 2 }, { key := .int .u8 6, val := .func (.func 100) #[.pointer (some ⟨rb, 0, none⟩)] #[], born := 3 }] 4 7 _ rfl, h #[{ key := .int .u8 0, val := .func (.func 97) #[.pointer (some ⟨rb, 0, none⟩)] #[], born := 0 }, { key := .int .u8 1, val := .func (.func 98) #[.pointer (some ⟨rb, 0, none⟩)] #[], born := 1 }, { key := .int .u8 2, val := .func (.func 99) #[.pointer (some ⟨rb, 0, none⟩)] #[], born := 2 }, { key := .int .u8 6, val := .func (.func 100) #[.pointer (some ⟨rb, 0, none⟩)] #[], born := 3 }, { key := .int .u8 7, val := .func (.func 101) #[.pointer (some ⟨rb, 0, none⟩)] #[], born := 4 }] 5 8 _ rfl, h #[{ key := .int .u8 0, val := .func (.func 97) #[.pointer (some ⟨rb, 0, none⟩)] #[], born := 0 }, { key := .int .u8 1, val := .func (.func 98) #[.pointer (some ⟨rb, 0, none⟩)] #[], born := 1 }, { key := .int .u8 2, val := .func (.func 99) #[.pointer (some ⟨rb, 0, none⟩)] #[], born := 2 }, { key := .int .u8 6, val := .func (.func 100) #[.pointer (some ⟨rb, 0, none⟩)] #[], born := 3 }, { key := .int .u8 7, val := .func (.func 101) #[.pointer (some ⟨rb, 0, none⟩)] #[], born := 4 }, { key := .int .u8 8, val := .func (.func 102) #[.pointer (some ⟨rb, 0, none⟩)] #[], born := 5 }] 6 28 _ rfl, h #[{ key := .int .u8 0, val := .func (.func 97) #[.pointer (some ⟨rb, 0, none⟩)] #[], born := 0 }, { key := .int .u8 1, val := .func (.func 98) #[.pointer (some ⟨rb, 0, none⟩)] #[], born := 1 }, { key := .int .u8 2, val := .func (.func 99) #[.pointer (some ⟨rb, 0, none⟩)] #[], born := 2 }, { key := .int .u8 6, val := .func (.func 100) #[.pointer (some ⟨rb, 0, none⟩)] #[], born := 3 }, { key := .int .u8 7, val := .func (.func 101) #[.pointer (some ⟨rb, 0, none⟩)] #[], born := 4 }, { key := .int .u8 8, val := .func (.func 102) #[.pointer (some ⟨rb, 0, none⟩)] #[], born := 5 }, { key := .int .u8 28, val := .func (.func 103) #[.pointer (some ⟨rb, 0, none⟩)] #[], born := 6 }] 7 30 _ rfl⟩
theorem front {w0 w w3 : World} {rb : Nat} {k : Int} {t : List Int} (h : Rdx w0 w rb (k :: t)) (o : Obj) (ho : Only (fun k => k = rb) ((w.alloc (.cells #[.int .i64 0, .int .i64 0, .slice none 0 0, .int .i64 0, .slice none 0 0, .int .i64 0] 58)).alloc o) w3) :
    Blk w3 w.heap.size [.int .i64 0, .int .i64 0, .slice none 0 0, .int .i64 0, .slice none 0 0, .int .i64 0] ∧ Only (fun k => k = rb) w w3 ∧ w3.heap[w.heap.size + 1]? = some o ∧ w.heap.size + 1 + 1 ≤ w3.heap.size := by
  have hl := h.lt
  have B := ((Blk.new w [.int .i64 0, .int .i64 0, .slice none 0 0, .int .i64 0, .slice none 0 0, .int .i64 0]).only (p := fun _ => False) ((Only.refl _ _).alloc o) (fun q => q)).only ho (by omega)
  have hn : ((w.alloc (.cells #[.int .i64 0, .int .i64 0, .slice none 0 0, .int .i64 0, .slice none 0 0, .int .i64 0] 58)).alloc o).heap[w.heap.size + 1]? = some o := by
    have := World.alloc_heap_new (w.alloc (.cells #[.int .i64 0, .int .i64 0, .slice none 0 0, .int .i64 0, .slice none 0 0, .int .i64 0] 58)) o
    rw [World.size_alloc] at this
    exact this
  have hs := ho.size
  rw [World.size_alloc, World.size_alloc] at hs
  exact ⟨B, (((Only.refl _ w).alloc _).alloc o).trans ho, (ho.block _ (by rw [World.size_alloc, World.size_alloc]; omega) (by omega)).trans hn, hs⟩
theorem rbyt_one {k : Int} {t : List Int} : rbyt (k :: t) 1 = some ([k], t) := by
  unfold rbyt
  rw [if_pos (by simp; omega)]
  rfl
set_option maxHeartbeats 2000000 in
set_option maxRecDepth 100000 in
theorem next_padding {w0 w : World} {rb : Nat} {t : List Int} (h : Rdx w0 w rb (0 :: t)) :
    Calls Tryd.prog 80 #[.pointer (some ⟨rb, 0, none⟩)] w (FrmP w0 w rb (next (0 :: t))) := by
  have hmf : ∀ (fn : Fn) (first cap : Array Value) (w : World), (Instr.makeFunc fn first cap).run Tryd.prog w = .ok (.func fn first cap) w := fun _ _ _ _ => rfl
  have hmm := @run_makeMap Tryd.prog
  have TB := Tbl.mk' w rb
  have i0 := TB.i0
  have i1 := TB.i1
  have i2 := TB.i2
  have i3 := TB.i3
  have i4 := TB.i4
  have i5 := TB.i5
  have i6 := TB.i6
  have i7 := TB.i7
  clear TB
  have hb2 : Below w.heap.size w ((w.alloc (.cells #[.int .i64 0, .int .i64 0, .slice none 0 0, .int .i64 0, .slice none 0 0, .int .i64 0] 58)).alloc (.map #[{ key := .int .u8 0, val := .func (.func 97) #[.pointer (some ⟨rb, 0, none⟩)] #[], born := 0 }, { key := .int .u8 1, val := .func (.func 98) #[.pointer (some ⟨rb, 0, none⟩)] #[], born := 1 }, { key := .int .u8 2, val := .func (.func 99) #[.pointer (some ⟨rb, 0, none⟩)] #[], born := 2 }, { key := .int .u8 6, val := .func (.func 100) #[.pointer (some ⟨rb, 0, none⟩)] #[], born := 3 }, { key := .int .u8 7, val := .func (.func 101) #[.pointer (some ⟨rb, 0, none⟩)] #[], born := 4 }, { key := .int .u8 8, val := .func (.func 102) #[.pointer (some ⟨rb, 0, none⟩)] #[], born := 5 }, { key := .int .u8 28, val := .func (.func 103) #[.pointer (some ⟨rb, 0, none⟩)] #[], born := 6 }, { key := .int .u8 30, val := .func (.func 104) #[.pointer (some ⟨rb, 0, none⟩)] #[], born := 7 }] 8)) := below_alloc (below_alloc (Below.refl _ _) _) _
  have HC := bytes_post (h.below hb2) 1 (by omega)
  rw [rbyt_one] at HC
  have HCA := Aside0.mk HC
  have HF := Aside0.mk (fun (w3 : World) ho => front (w3 := w3) h (.map #[{ key := .int .u8 0, val := .func (.func 97) #[.pointer (some ⟨rb, 0, none⟩)] #[], born := 0 }, { key := .int .u8 1, val := .func (.func 98) #[.pointer (some ⟨rb, 0, none⟩)] #[], born := 1 }, { key := .int .u8 2, val := .func (.func 99) #[.pointer (some ⟨rb, 0, none⟩)] #[], born := 2 }, { key := .int .u8 6, val := .func (.func 100) #[.pointer (some ⟨rb, 0, none⟩)] #[], born := 3 }, { key := .int .u8 7, val := .func (.func 101) #[.pointer (some ⟨rb, 0, none⟩)] #[], born := 4 }, { key := .int .u8 8, val := .func (.func 102) #[.pointer (some ⟨rb, 0, none⟩)] #[], born := 5 }, { key := .int .u8 28, val := .func (.func 103) #[.pointer (some ⟨rb, 0, none⟩)] #[], born := 6 }, { key := .int .u8 30, val := .func (.func 104) #[.pointer (some ⟨rb, 0, none⟩)] #[], born := 7 }] 8) ho)
  have HL := Aside0.mk (show rb < w.heap.size ∧ w0.heap.size ≤ rb from ⟨h.lt, h.lo⟩)
  generalize hres : next (0 :: t) = res
  clear HC hb2 h
  go_enter Tryd.func80, Tryd.ntmps80
  go_upto_region 2 with (go_at_call 105; refine HCA.out.mono ?_; rintro e1 w3 ⟨ho, v1, rfl, hR, hx⟩; obtain ⟨A1, c1, rfl, hl1, hC⟩ := Kd.R_reads hR; obtain ⟨ad, rfl, hc⟩ := Kd.at_int hC 0 (by omega) (by simp); simp only [rd, Int.toNat_zero, List.getD_cons_zero] at hc; rw [show ad.add 0 = ad from rfl] at hc; obtain ⟨hblk, hon, hmap, hsz⟩ := HF.out w3 ho; have hlook := look_run w3 (w.heap.size + 1) #[{ key := .int .u8 0, val := .func (.func 97) #[.pointer (some ⟨rb, 0, none⟩)] #[], born := 0 }, { key := .int .u8 1, val := .func (.func 98) #[.pointer (some ⟨rb, 0, none⟩)] #[], born := 1 }, { key := .int .u8 2, val := .func (.func 99) #[.pointer (some ⟨rb, 0, none⟩)] #[], born := 2 }, { key := .int .u8 6, val := .func (.func 100) #[.pointer (some ⟨rb, 0, none⟩)] #[], born := 3 }, { key := .int .u8 7, val := .func (.func 101) #[.pointer (some ⟨rb, 0, none⟩)] #[], born := 4 }, { key := .int .u8 8, val := .func (.func 102) #[.pointer (some ⟨rb, 0, none⟩)] #[], born := 5 }, { key := .int .u8 28, val := .func (.func 103) #[.pointer (some ⟨rb, 0, none⟩)] #[], born := 6 }, { key := .int .u8 30, val := .func (.func 104) #[.pointer (some ⟨rb, 0, none⟩)] #[], born := 7 }] 8 0 0 (.func (.func 97) #[.pointer (some ⟨rb, 0, none⟩)] #[]) hmap rfl; have X3 := Aside0.mk hx; have Z3 := Aside0.mk hblk; have O3 := Aside0.mk hon; have S3 := Aside0.mk hsz; clear ho hR hx hC hl1 hblk hon hmap hsz)
  have hneq : (binOp .neq 129 (.func (.func 97) #[.pointer (some ⟨rb, 0, none⟩)] #[]) .nilFunc).run Tryd.prog w3 = .ok (.bool true) w3 := neq_func w3 97 rb
  clear i0 i1 i2 i3 i4 i5 i6 i7 hmf hmm HCA HF
  obtain ⟨b0, hb0⟩ : ∃ b0, w.heap.size = b0 := ⟨_, rfl⟩
  have hs3 := S3.out
  have hb0' := hb0
  rw [hb0] at Z3 ⊢
  have HI := Aside0.mk (And.intro hb0 (show b0 < w3.heap.size ∧ w.heap.size ≤ w3.heap.size by omega))
  clear hb0 hb0' hs3 S3
  have HB : Calls Tryd.prog 97 #[.pointer (some ⟨rb, 0, none⟩)] w3 (FrmP w0 w3 rb (body 0 t)) := by
    have := padding_post X3.out
    exact this
  rcases hb : body 0 t with _ | ⟨⟨a0, a1, l2, a3, l4, a5⟩, x⟩
  · obtain rfl : none = res := by rw [← hres, next, hb]; rfl
    rw [hb] at HB
    clear hb hres
    go_wp2_with (first | (go_at_call 79; refine (need_ok _).mono ?_; rintro e1 w4 ⟨rfl, rfl⟩) | (go_at_call 97; refine HB.mono ?_; rintro e1 w5 ⟨ho, rfl⟩; have HO := Aside0.mk ho; clear ho))
    exact ⟨rfl, O3.out.trans HO.out, rfl⟩
  have hlen := body_len hb
  have HRES := Aside0.mk (show (if fr58 ⟨a0, a1, l2, a3, l4, a5⟩ then some ((⟨a0, a1, l2, a3, l4, a5⟩ : S58), x) else none) = res by rw [← hres, next, hb]; rfl)
  obtain ⟨b, hb2, hbi⟩ := FrP.right_f a0 a1 l2 a3 l4 a5 (by simp only [] at hlen; omega) 300 (by omega)
  have HRB := Aside0.mk (And.intro hb2 hbi)
  rw [hb] at HB
  clear hb hres hlen hb2 hbi
  go_upto_region 4 with (first | (go_at_call 79; refine (need_ok _).mono ?_; rintro e1 w4 ⟨rfl, rfl⟩) | (go_at_call 97; refine HB.mono ?_; rintro e1 w5 ⟨ho, ⟨v2, v4, rfl, hR2, hR4⟩, hx⟩; obtain ⟨A2, c2, e2⟩ := Kd.R_slice hR2; obtain ⟨A4, c4, e4⟩ := Kd.R_slice hR4; subst e2 e4; have U2 := Aside0.mk (Kd.R_reads' hR2).2; have U4 := Aside0.mk (Kd.R_reads' hR4).2; have R2 := Aside0.mk hR2; have R4 := Aside0.mk hR4; have HO := Aside0.mk ho; have X5 := Aside0.mk hx; clear ho hx hR2 hR4))
  obtain ⟨w6, hw6⟩ : ∃ w6, w5.alloc (.cells #[.int .i64 a0, .int .i64 a1, .slice A2 l2.length c2, .int .i64 a3, .slice A4 l4.length c4, .int .i64 a5] 58) = w6 := ⟨_, rfl⟩
  have hbel : Below w5.heap.size w5 w6 := by rw [← hw6]; exact below_alloc (Below.refl _ _) _
  have hB6 : Blk w6 w5.heap.size [.int .i64 a0, .int .i64 a1, .slice A2 l2.length c2, .int .i64 a3, .slice A4 l4.length c4, .int .i64 a5] := by rw [← hw6]; exact Blk.new w5 _
  have RC := frame_Right.calls 300 a0 a1 A2 c2 l2 a3 A4 c4 l4 a5 b w6 (Kd.C_below U2.out.2 hbel) U2.out.1 (Kd.C_below U4.out.2 hbel) U4.out.1 HRB.out.1
  rw [hw6]
  have hL := HL.out
  have hI := HI.out
  have h5 := HO.out.size
  have Z6 := Aside0.mk (((Z3.out.only HO.out (by omega)).only (Only.of_below hbel : Only (fun _ => False) w5 w6) (fun q => q)))
  have X6 := Aside0.mk (X5.out.below hbel)
  have R26 := Aside0.mk (R_only R2.out (Only.of_below hbel : Only (fun _ => False) w5 w6) (fun _ q => q.elim))
  have R46 := Aside0.mk (R_only R4.out (Only.of_below hbel : Only (fun _ => False) w5 w6) (fun _ q => q.elim))
  have O6 := Aside0.mk ((O3.out.trans HO.out).trans (Only.of_below hbel))
  obtain ⟨hbk, hhb⟩ : ∃ hbk, w5.heap.size = hbk := ⟨_, rfl⟩
  rw [hhb] at hB6 ⊢
  have HB6 := Aside0.mk hB6
  have HJ := Aside0.mk (show b0 < hbk by omega)
  obtain ⟨n2, hn2⟩ : ∃ n2, l2.length = n2 := ⟨_, rfl⟩
  obtain ⟨n4, hn4⟩ : ∃ n4, l4.length = n4 := ⟨_, rfl⟩
  rw [hn2, hn4] at RC HB6
  rw [hn2] at R26
  rw [hn4] at R46
  clear hbel hB6 hw6 hL hI h5 hhb hn2 hn4 U2 U4 R2 R4 HO X5 X3 Z3 O3 HB
  have q0 := HB6.out.cell 0 _ rfl
  have q1 := HB6.out.cell 1 _ rfl
  have q2 := HB6.out.cell 2 _ rfl
  have q3 := HB6.out.cell 3 _ rfl
  have q4 := HB6.out.cell 4 _ rfl
  have q5 := HB6.out.cell 5 _ rfl
  by_cases hfr : fr58 ⟨a0, a1, l2, a3, l4, a5⟩
  rotate_left
  · obtain rfl : none = res := by have := HRES.out; rw [if_neg hfr] at this; exact this
    obtain rfl : b = false := by
      cases b with
      | false => rfl
      | true => exact absurd (HRB.out.2.1 rfl) hfr
    clear hfr
    go_wp2_with (first | (go_at_call 42; refine RC.mono ?_; rintro e1 w7 ⟨rfl, hb7⟩; have HB7 := Aside0.mk hb7; clear hb7) | (go_at_call 79; refine (need_bad _).mono ?_; rintro e1 w4 ⟨rfl, rfl⟩))
    exact ⟨rfl, O6.out.trans (Only.of_below HB7.out), rfl⟩
  obtain rfl : some ((⟨a0, a1, l2, a3, l4, a5⟩ : S58), x) = res := by have := HRES.out; rw [if_pos hfr] at this; exact this
  obtain rfl : b = true := HRB.out.2.2 hfr
  clear hfr
  go_upto_region 5 with (first | (go_at_call 42; refine RC.mono ?_; rintro e1 w7 ⟨rfl, hb7⟩; have HB7 := Aside0.mk hb7; clear hb7) | (go_at_call 79; refine (need_ok _).mono ?_; rintro e1 w4 ⟨rfl, rfl⟩))
  clear RC q0 q1 q2 q3 q4 q5
  have o7 : Only (fun _ => False) w6 w7 := Only.of_below HB7.out
  have B7 := Aside0.mk (HB6.out.only o7 (fun q => q))
  have Z7 := Aside0.mk (Z6.out.only o7 (fun q => q))
  clear o7
  have q0 := B7.out.cell 0 _ rfl
  have q1 := B7.out.cell 1 _ rfl
  have q2 := B7.out.cell 2 _ rfl
  have q3 := B7.out.cell 3 _ rfl
  have q4 := B7.out.cell 4 _ rfl
  have q5 := B7.out.cell 5 _ rfl
  have z0 := Z7.out.cell 0 _ rfl
  have z1 := Z7.out.cell 1 _ rfl
  have z2 := Z7.out.cell 2 _ rfl
  have z3 := Z7.out.cell 3 _ rfl
  have z4 := Z7.out.cell 4 _ rfl
  have z5 := Z7.out.cell 5 _ rfl
  have y0 := Z7.out.frozen 0
  have y1 := Z7.out.frozen 1
  have y2 := Z7.out.frozen 2
  have y3 := Z7.out.frozen 3
  have y4 := Z7.out.frozen 4
  have y5 := Z7.out.frozen 5
  go_wp2
  change bodyPost _ _ _ _ _ (put6 w7 b0 (.int .i64 a0) (.int .i64 a1) (.slice A2 n2 c2) (.int .i64 a3) (.slice A4 n4 c4) (.int .i64 a5))
  have B8 := put6_blk Z7.out (.int .i64 a0) (.int .i64 a1) (.slice A2 n2 c2) (.int .i64 a3) (.slice A4 n4 c4) (.int .i64 a5)
  have O8 := put6_only w7 b0 (.int .i64 a0) (.int .i64 a1) (.slice A2 n2 c2) (.int .i64 a3) (.slice A4 n4 c4) (.int .i64 a5)
  clear q0 q1 q2 q3 q4 q5 z0 z1 z2 z3 z4 z5 y0 y1 y2 y3 y4 y5
  generalize put6 w7 b0 (.int .i64 a0) (.int .i64 a1) (.slice A2 n2 c2) (.int .i64 a3) (.slice A4 n4 c4) (.int .i64 a5) = w8 at *
  have x0 := B8.cell 0 _ rfl
  have x1 := B8.cell 1 _ rfl
  have x2 := B8.cell 2 _ rfl
  have x3 := B8.cell 3 _ rfl
  have x4 := B8.cell 4 _ rfl
  have x5 := B8.cell 5 _ rfl
  refine bodyPost_ret (v := .agg #[.int .i64 a0, .int .i64 a1, .slice A2 n2 c2, .int .i64 a3, .slice A4 n4 c4, .int .i64 a5]) ?_ rfl ?_
  · simp [results, Tryd.results80, go_sem, x0, x1, x2, x3, x4, x5]
  · clear x0 x1 x2 x3 x4 x5 B8
    have hL := HL.out
    have hI := HI.out
    have o7 : Only (fun _ => False) w6 w7 := Only.of_below HB7.out
    have h6 := R_only (R_only R26.out o7 (fun _ q => q.elim)) O8 (fun k q => by omega)
    have h7 := R_only (R_only R46.out o7 (fun _ q => q.elim)) O8 (fun k q => by omega)
    exact ⟨own_only (O6.out.trans (Only.of_below HB7.out)) O8 (by omega), ⟨_, _, rfl, Kd.R_lower h6 hI.2.2, Kd.R_lower h7 hI.2.2⟩, (X6.out.below HB7.out).only O8 (by omega) (by have := X6.out.lo; omega)⟩
set_option maxHeartbeats 2000000 in
set_option maxRecDepth 100000 in
theorem next_ping {w0 w : World} {rb : Nat} {t : List Int} (h : Rdx w0 w rb (1 :: t)) :
    Calls Tryd.prog 80 #[.pointer (some ⟨rb, 0, none⟩)] w (FrmP w0 w rb (next (1 :: t))) := by
  have hmf : ∀ (fn : Fn) (first cap : Array Value) (w : World), (Instr.makeFunc fn first cap).run Tryd.prog w = .ok (.func fn first cap) w := fun _ _ _ _ => rfl
  have hmm := @run_makeMap Tryd.prog
  have TB := Tbl.mk' w rb
  have i0 := TB.i0
  have i1 := TB.i1
  have i2 := TB.i2
  have i3 := TB.i3
  have i4 := TB.i4
  have i5 := TB.i5
  have i6 := TB.i6
  have i7 := TB.i7
  clear TB
  have hb2 : Below w.heap.size w ((w.alloc (.cells #[.int .i64 0, .int .i64 0, .slice none 0 0, .int .i64 0, .slice none 0 0, .int .i64 0] 58)).alloc (.map #[{ key := .int .u8 0, val := .func (.func 97) #[.pointer (some ⟨rb, 0, none⟩)] #[], born := 0 }, { key := .int .u8 1, val := .func (.func 98) #[.pointer (some ⟨rb, 0, none⟩)] #[], born := 1 }, { key := .int .u8 2, val := .func (.func 99) #[.pointer (some ⟨rb, 0, none⟩)] #[], born := 2 }, { key := .int .u8 6, val := .func (.func 100) #[.pointer (some ⟨rb, 0, none⟩)] #[], born := 3 }, { key := .int .u8 7, val := .func (.func 101) #[.pointer (some ⟨rb, 0, none⟩)] #[], born := 4 }, { key := .int .u8 8, val := .func (.func 102) #[.pointer (some ⟨rb, 0, none⟩)] #[], born := 5 }, { key := .int .u8 28, val := .func (.func 103) #[.pointer (some ⟨rb, 0, none⟩)] #[], born := 6 }, { key := .int .u8 30, val := .func (.func 104) #[.pointer (some ⟨rb, 0, none⟩)] #[], born := 7 }] 8)) := below_alloc (below_alloc (Below.refl _ _) _) _
  have HC := bytes_post (h.below hb2) 1 (by omega)
  rw [rbyt_one] at HC
  have HCA := Aside0.mk HC
  have HF := Aside0.mk (fun (w3 : World) ho => front (w3 := w3) h (.map #[{ key := .int .u8 0, val := .func (.func 97) #[.pointer (some ⟨rb, 0, none⟩)] #[], born := 0 }, { key := .int .u8 1, val := .func (.func 98) #[.pointer (some ⟨rb, 0, none⟩)] #[], born := 1 }, { key := .int .u8 2, val := .func (.func 99) #[.pointer (some ⟨rb, 0, none⟩)] #[], born := 2 }, { key := .int .u8 6, val := .func (.func 100) #[.pointer (some ⟨rb, 0, none⟩)] #[], born := 3 }, { key := .int .u8 7, val := .func (.func 101) #[.pointer (some ⟨rb, 0, none⟩)] #[], born := 4 }, { key := .int .u8 8, val := .func (.func 102) #[.pointer (some ⟨rb, 0, none⟩)] #[], born := 5 }, { key := .int .u8 28, val := .func (.func 103) #[.pointer (some ⟨rb, 0, none⟩)] #[], born := 6 }, { key := .int .u8 30, val := .func (.func 104) #[.pointer (some ⟨rb, 0, none⟩)] #[], born := 7 }] 8) ho)
  have HL := Aside0.mk (show rb < w.heap.size ∧ w0.heap.size ≤ rb from ⟨h.lt, h.lo⟩)
  generalize hres : next (1 :: t) = res
  clear HC hb2 h
  go_enter Tryd.func80, Tryd.ntmps80
  go_upto_region 2 with (go_at_call 105; refine HCA.out.mono ?_; rintro e1 w3 ⟨ho, v1, rfl, hR, hx⟩; obtain ⟨A1, c1, rfl, hl1, hC⟩ := Kd.R_reads hR; obtain ⟨ad, rfl, hc⟩ := Kd.at_int hC 0 (by omega) (by simp); simp only [rd, Int.toNat_zero, List.getD_cons_zero] at hc; rw [show ad.add 0 = ad from rfl] at hc; obtain ⟨hblk, hon, hmap, hsz⟩ := HF.out w3 ho; have hlook := look_run w3 (w.heap.size + 1) #[{ key := .int .u8 0, val := .func (.func 97) #[.pointer (some ⟨rb, 0, none⟩)] #[], born := 0 }, { key := .int .u8 1, val := .func (.func 98) #[.pointer (some ⟨rb, 0, none⟩)] #[], born := 1 }, { key := .int .u8 2, val := .func (.func 99) #[.pointer (some ⟨rb, 0, none⟩)] #[], born := 2 }, { key := .int .u8 6, val := .func (.func 100) #[.pointer (some ⟨rb, 0, none⟩)] #[], born := 3 }, { key := .int .u8 7, val := .func (.func 101) #[.pointer (some ⟨rb, 0, none⟩)] #[], born := 4 }, { key := .int .u8 8, val := .func (.func 102) #[.pointer (some ⟨rb, 0, none⟩)] #[], born := 5 }, { key := .int .u8 28, val := .func (.func 103) #[.pointer (some ⟨rb, 0, none⟩)] #[], born := 6 }, { key := .int .u8 30, val := .func (.func 104) #[.pointer (some ⟨rb, 0, none⟩)] #[], born := 7 }] 8 1 1 (.func (.func 98) #[.pointer (some ⟨rb, 0, none⟩)] #[]) hmap rfl; have X3 := Aside0.mk hx; have Z3 := Aside0.mk hblk; have O3 := Aside0.mk hon; have S3 := Aside0.mk hsz; clear ho hR hx hC hl1 hblk hon hmap hsz)
  have hneq : (binOp .neq 129 (.func (.func 98) #[.pointer (some ⟨rb, 0, none⟩)] #[]) .nilFunc).run Tryd.prog w3 = .ok (.bool true) w3 := neq_func w3 98 rb
  clear i0 i1 i2 i3 i4 i5 i6 i7 hmf hmm HCA HF
  obtain ⟨b0, hb0⟩ : ∃ b0, w.heap.size = b0 := ⟨_, rfl⟩
  have hs3 := S3.out
  have hb0' := hb0
  rw [hb0] at Z3 ⊢
  have HI := Aside0.mk (And.intro hb0 (show b0 < w3.heap.size ∧ w.heap.size ≤ w3.heap.size by omega))
  clear hb0 hb0' hs3 S3
  have HB : Calls Tryd.prog 98 #[.pointer (some ⟨rb, 0, none⟩)] w3 (FrmP w0 w3 rb (body 1 t)) := by
    have := ping_post X3.out
    exact this
  rcases hb : body 1 t with _ | ⟨⟨a0, a1, l2, a3, l4, a5⟩, x⟩
  · obtain rfl : none = res := by rw [← hres, next, hb]; rfl
    rw [hb] at HB
    clear hb hres
    go_wp2_with (first | (go_at_call 79; refine (need_ok _).mono ?_; rintro e1 w4 ⟨rfl, rfl⟩) | (go_at_call 98; refine HB.mono ?_; rintro e1 w5 ⟨ho, rfl⟩; have HO := Aside0.mk ho; clear ho))
    exact ⟨rfl, O3.out.trans HO.out, rfl⟩
  have hlen := body_len hb
  have HRES := Aside0.mk (show (if fr58 ⟨a0, a1, l2, a3, l4, a5⟩ then some ((⟨a0, a1, l2, a3, l4, a5⟩ : S58), x) else none) = res by rw [← hres, next, hb]; rfl)
  obtain ⟨b, hb2, hbi⟩ := FrP.right_f a0 a1 l2 a3 l4 a5 (by simp only [] at hlen; omega) 300 (by omega)
  have HRB := Aside0.mk (And.intro hb2 hbi)
  rw [hb] at HB
  clear hb hres hlen hb2 hbi
  go_upto_region 4 with (first | (go_at_call 79; refine (need_ok _).mono ?_; rintro e1 w4 ⟨rfl, rfl⟩) | (go_at_call 98; refine HB.mono ?_; rintro e1 w5 ⟨ho, ⟨v2, v4, rfl, hR2, hR4⟩, hx⟩; obtain ⟨A2, c2, e2⟩ := Kd.R_slice hR2; obtain ⟨A4, c4, e4⟩ := Kd.R_slice hR4; subst e2 e4; have U2 := Aside0.mk (Kd.R_reads' hR2).2; have U4 := Aside0.mk (Kd.R_reads' hR4).2; have R2 := Aside0.mk hR2; have R4 := Aside0.mk hR4; have HO := Aside0.mk ho; have X5 := Aside0.mk hx; clear ho hx hR2 hR4))
  obtain ⟨w6, hw6⟩ : ∃ w6, w5.alloc (.cells #[.int .i64 a0, .int .i64 a1, .slice A2 l2.length c2, .int .i64 a3, .slice A4 l4.length c4, .int .i64 a5] 58) = w6 := ⟨_, rfl⟩
  have hbel : Below w5.heap.size w5 w6 := by rw [← hw6]; exact below_alloc (Below.refl _ _) _
  have hB6 : Blk w6 w5.heap.size [.int .i64 a0, .int .i64 a1, .slice A2 l2.length c2, .int .i64 a3, .slice A4 l4.length c4, .int .i64 a5] := by rw [← hw6]; exact Blk.new w5 _
  have RC := frame_Right.calls 300 a0 a1 A2 c2 l2 a3 A4 c4 l4 a5 b w6 (Kd.C_below U2.out.2 hbel) U2.out.1 (Kd.C_below U4.out.2 hbel) U4.out.1 HRB.out.1
  rw [hw6]
  have hL := HL.out
  have hI := HI.out
  have h5 := HO.out.size
  have Z6 := Aside0.mk (((Z3.out.only HO.out (by omega)).only (Only.of_below hbel : Only (fun _ => False) w5 w6) (fun q => q)))
  have X6 := Aside0.mk (X5.out.below hbel)
  have R26 := Aside0.mk (R_only R2.out (Only.of_below hbel : Only (fun _ => False) w5 w6) (fun _ q => q.elim))
  have R46 := Aside0.mk (R_only R4.out (Only.of_below hbel : Only (fun _ => False) w5 w6) (fun _ q => q.elim))
  have O6 := Aside0.mk ((O3.out.trans HO.out).trans (Only.of_below hbel))
  obtain ⟨hbk, hhb⟩ : ∃ hbk, w5.heap.size = hbk := ⟨_, rfl⟩
  rw [hhb] at hB6 ⊢
  have HB6 := Aside0.mk hB6
  have HJ := Aside0.mk (show b0 < hbk by omega)
  obtain ⟨n2, hn2⟩ : ∃ n2, l2.length = n2 := ⟨_, rfl⟩
  obtain ⟨n4, hn4⟩ : ∃ n4, l4.length = n4 := ⟨_, rfl⟩
  rw [hn2, hn4] at RC HB6
  rw [hn2] at R26
  rw [hn4] at R46
  clear hbel hB6 hw6 hL hI h5 hhb hn2 hn4 U2 U4 R2 R4 HO X5 X3 Z3 O3 HB
  have q0 := HB6.out.cell 0 _ rfl
  have q1 := HB6.out.cell 1 _ rfl
  have q2 := HB6.out.cell 2 _ rfl
  have q3 := HB6.out.cell 3 _ rfl
  have q4 := HB6.out.cell 4 _ rfl
  have q5 := HB6.out.cell 5 _ rfl
  by_cases hfr : fr58 ⟨a0, a1, l2, a3, l4, a5⟩
  rotate_left
  · obtain rfl : none = res := by have := HRES.out; rw [if_neg hfr] at this; exact this
    obtain rfl : b = false := by
      cases b with
      | false => rfl
      | true => exact absurd (HRB.out.2.1 rfl) hfr
    clear hfr
    go_wp2_with (first | (go_at_call 42; refine RC.mono ?_; rintro e1 w7 ⟨rfl, hb7⟩; have HB7 := Aside0.mk hb7; clear hb7) | (go_at_call 79; refine (need_bad _).mono ?_; rintro e1 w4 ⟨rfl, rfl⟩))
    exact ⟨rfl, O6.out.trans (Only.of_below HB7.out), rfl⟩
  obtain rfl : some ((⟨a0, a1, l2, a3, l4, a5⟩ : S58), x) = res := by have := HRES.out; rw [if_pos hfr] at this; exact this
  obtain rfl : b = true := HRB.out.2.2 hfr
  clear hfr
  go_upto_region 5 with (first | (go_at_call 42; refine RC.mono ?_; rintro e1 w7 ⟨rfl, hb7⟩; have HB7 := Aside0.mk hb7; clear hb7) | (go_at_call 79; refine (need_ok _).mono ?_; rintro e1 w4 ⟨rfl, rfl⟩))
  clear RC q0 q1 q2 q3 q4 q5
  have o7 : Only (fun _ => False) w6 w7 := Only.of_below HB7.out
  have B7 := Aside0.mk (HB6.out.only o7 (fun q => q))
  have Z7 := Aside0.mk (Z6.out.only o7 (fun q => q))
  clear o7
  have q0 := B7.out.cell 0 _ rfl
  have q1 := B7.out.cell 1 _ rfl
  have q2 := B7.out.cell 2 _ rfl
  have q3 := B7.out.cell 3 _ rfl
  have q4 := B7.out.cell 4 _ rfl
  have q5 := B7.out.cell 5 _ rfl
  have z0 := Z7.out.cell 0 _ rfl
  have z1 := Z7.out.cell 1 _ rfl
  have z2 := Z7.out.cell 2 _ rfl
  have z3 := Z7.out.cell 3 _ rfl
  have z4 := Z7.out.cell 4 _ rfl
  have z5 := Z7.out.cell 5 _ rfl
  have y0 := Z7.out.frozen 0
  have y1 := Z7.out.frozen 1
  have y2 := Z7.out.frozen 2
  have y3 := Z7.out.frozen 3
  have y4 := Z7.out.frozen 4
  have y5 := Z7.out.frozen 5
  go_wp2
  change bodyPost _ _ _ _ _ (put6 w7 b0 (.int .i64 a0) (.int .i64 a1) (.slice A2 n2 c2) (.int .i64 a3) (.slice A4 n4 c4) (.int .i64 a5))
  have B8 := put6_blk Z7.out (.int .i64 a0) (.int .i64 a1) (.slice A2 n2 c2) (.int .i64 a3) (.slice A4 n4 c4) (.int .i64 a5)
  have O8 := put6_only w7 b0 (.int .i64 a0) (.int .i64 a1) (.slice A2 n2 c2) (.int .i64 a3) (.slice A4 n4 c4) (.int .i64 a5)
  clear q0 q1 q2 q3 q4 q5 z0 z1 z2 z3 z4 z5 y0 y1 y2 y3 y4 y5
  generalize put6 w7 b0 (.int .i64 a0) (.int .i64 a1) (.slice A2 n2 c2) (.int .i64 a3) (.slice A4 n4 c4) (.int .i64 a5) = w8 at *
  have x0 := B8.cell 0 _ rfl
  have x1 := B8.cell 1 _ rfl
  have x2 := B8.cell 2 _ rfl
  have x3 := B8.cell 3 _ rfl
  have x4 := B8.cell 4 _ rfl
  have x5 := B8.cell 5 _ rfl
  refine bodyPost_ret (v := .agg #[.int .i64 a0, .int .i64 a1, .slice A2 n2 c2, .int .i64 a3, .slice A4 n4 c4, .int .i64 a5]) ?_ rfl ?_
  · simp [results, Tryd.results80, go_sem, x0, x1, x2, x3, x4, x5]
  · clear x0 x1 x2 x3 x4 x5 B8
    have hL := HL.out
    have hI := HI.out
    have o7 : Only (fun _ => False) w6 w7 := Only.of_below HB7.out
    have h6 := R_only (R_only R26.out o7 (fun _ q => q.elim)) O8 (fun k q => by omega)
    have h7 := R_only (R_only R46.out o7 (fun _ q => q.elim)) O8 (fun k q => by omega)
    exact ⟨own_only (O6.out.trans (Only.of_below HB7.out)) O8 (by omega), ⟨_, _, rfl, Kd.R_lower h6 hI.2.2, Kd.R_lower h7 hI.2.2⟩, (X6.out.below HB7.out).only O8 (by omega) (by have := X6.out.lo; omega)⟩
set_option maxHeartbeats 2000000 in
set_option maxRecDepth 100000 in
theorem next_ack {w0 w : World} {rb : Nat} {t : List Int} (h : Rdx w0 w rb (2 :: t)) :
    Calls Tryd.prog 80 #[.pointer (some ⟨rb, 0, none⟩)] w (FrmP w0 w rb (next (2 :: t))) := by
  have hmf : ∀ (fn : Fn) (first cap : Array Value) (w : World), (Instr.makeFunc fn first cap).run Tryd.prog w = .ok (.func fn first cap) w := fun _ _ _ _ => rfl
  have hmm := @run_makeMap Tryd.prog
  have TB := Tbl.mk' w rb
  have i0 := TB.i0
  have i1 := TB.i1
  have i2 := TB.i2
  have i3 := TB.i3
  have i4 := TB.i4
  have i5 := TB.i5
  have i6 := TB.i6
  have i7 := TB.i7
  clear TB
  have hb2 : Below w.heap.size w ((w.alloc (.cells #[.int .i64 0, .int .i64 0, .slice none 0 0, .int .i64 0, .slice none 0 0, .int .i64 0] 58)).alloc (.map #[{ key := .int .u8 0, val := .func (.func 97) #[.pointer (some ⟨rb, 0, none⟩)] #[], born := 0 }, { key := .int .u8 1, val := .func (.func 98) #[.pointer (some ⟨rb, 0, none⟩)] #[], born := 1 }, { key := .int .u8 2, val := .func (.func 99) #[.pointer (some ⟨rb, 0, none⟩)] #[], born := 2 }, { key := .int .u8 6, val := .func (.func 100) #[.pointer (some ⟨rb, 0, none⟩)] #[], born := 3 }, { key := .int .u8 7, val := .func (.func 101) #[.pointer (some ⟨rb, 0, none⟩)] #[], born := 4 }, { key := .int .u8 8, val := .func (.func 102) #[.pointer (some ⟨rb, 0, none⟩)] #[], born := 5 }, { key := .int .u8 28, val := .func (.func 103) #[.pointer (some ⟨rb, 0, none⟩)] #[], born := 6 }, { key := .int .u8 30, val := .func (.func 104) #[.pointer (some ⟨rb, 0, none⟩)] #[], born := 7 }] 8)) := below_alloc (below_alloc (Below.refl _ _) _) _
  have HC := bytes_post (h.below hb2) 1 (by omega)
  rw [rbyt_one] at HC
  have HCA := Aside0.mk HC
  have HF := Aside0.mk (fun (w3 : World) ho => front (w3 := w3) h (.map #[{ key := .int .u8 0, val := .func (.func 97) #[.pointer (some ⟨rb, 0, none⟩)] #[], born := 0 }, { key := .int .u8 1, val := .func (.func 98) #[.pointer (some ⟨rb, 0, none⟩)] #[], born := 1 }, { key := .int .u8 2, val := .func (.func 99) #[.pointer (some ⟨rb, 0, none⟩)] #[], born := 2 }, { key := .int .u8 6, val := .func (.func 100) #[.pointer (some ⟨rb, 0, none⟩)] #[], born := 3 }, { key := .int .u8 7, val := .func (.func 101) #[.pointer (some ⟨rb, 0, none⟩)] #[], born := 4 }, { key := .int .u8 8, val := .func (.func 102) #[.pointer (some ⟨rb, 0, none⟩)] #[], born := 5 }, { key := .int .u8 28, val := .func (.func 103) #[.pointer (some ⟨rb, 0, none⟩)] #[], born := 6 }, { key := .int .u8 30, val := .func (.func 104) #[.pointer (some ⟨rb, 0, none⟩)] #[], born := 7 }] 8) ho)
  have HL := Aside0.mk (show rb < w.heap.size ∧ w0.heap.size ≤ rb from ⟨h.lt, h.lo⟩)
  generalize hres : next (2 :: t) = res
  clear HC hb2 h
  go_enter Tryd.func80, Tryd.ntmps80
  go_upto_region 2 with (go_at_call 105; refine HCA.out.mono ?_; rintro e1 w3 ⟨ho, v1, rfl, hR, hx⟩; obtain ⟨A1, c1, rfl, hl1, hC⟩ := Kd.R_reads hR; obtain ⟨ad, rfl, hc⟩ := Kd.at_int hC 0 (by omega) (by simp); simp only [rd, Int.toNat_zero, List.getD_cons_zero] at hc; rw [show ad.add 0 = ad from rfl] at hc; obtain ⟨hblk, hon, hmap, hsz⟩ := HF.out w3 ho; have hlook := look_run w3 (w.heap.size + 1) #[{ key := .int .u8 0, val := .func (.func 97) #[.pointer (some ⟨rb, 0, none⟩)] #[], born := 0 }, { key := .int .u8 1, val := .func (.func 98) #[.pointer (some ⟨rb, 0, none⟩)] #[], born := 1 }, { key := .int .u8 2, val := .func (.func 99) #[.pointer (some ⟨rb, 0, none⟩)] #[], born := 2 }, { key := .int .u8 6, val := .func (.func 100) #[.pointer (some ⟨rb, 0, none⟩)] #[], born := 3 }, { key := .int .u8 7, val := .func (.func 101) #[.pointer (some ⟨rb, 0, none⟩)] #[], born := 4 }, { key := .int .u8 8, val := .func (.func 102) #[.pointer (some ⟨rb, 0, none⟩)] #[], born := 5 }, { key := .int .u8 28, val := .func (.func 103) #[.pointer (some ⟨rb, 0, none⟩)] #[], born := 6 }, { key := .int .u8 30, val := .func (.func 104) #[.pointer (some ⟨rb, 0, none⟩)] #[], born := 7 }] 8 2 2 (.func (.func 99) #[.pointer (some ⟨rb, 0, none⟩)] #[]) hmap rfl; have X3 := Aside0.mk hx; have Z3 := Aside0.mk hblk; have O3 := Aside0.mk hon; have S3 := Aside0.mk hsz; clear ho hR hx hC hl1 hblk hon hmap hsz)
  have hneq : (binOp .neq 129 (.func (.func 99) #[.pointer (some ⟨rb, 0, none⟩)] #[]) .nilFunc).run Tryd.prog w3 = .ok (.bool true) w3 := neq_func w3 99 rb
  clear i0 i1 i2 i3 i4 i5 i6 i7 hmf hmm HCA HF
  obtain ⟨b0, hb0⟩ : ∃ b0, w.heap.size = b0 := ⟨_, rfl⟩
  have hs3 := S3.out
  have hb0' := hb0
  rw [hb0] at Z3 ⊢
  have HI := Aside0.mk (And.intro hb0 (show b0 < w3.heap.size ∧ w.heap.size ≤ w3.heap.size by omega))
  clear hb0 hb0' hs3 S3
  have HB : Calls Tryd.prog 99 #[.pointer (some ⟨rb, 0, none⟩)] w3 (FrmP w0 w3 rb (body 2 t)) := by
    have := ack_post X3.out
    exact this
  rcases hb : body 2 t with _ | ⟨⟨a0, a1, l2, a3, l4, a5⟩, x⟩
  · obtain rfl : none = res := by rw [← hres, next, hb]; rfl
    rw [hb] at HB
    clear hb hres
    go_wp2_with (first | (go_at_call 79; refine (need_ok _).mono ?_; rintro e1 w4 ⟨rfl, rfl⟩) | (go_at_call 99; refine HB.mono ?_; rintro e1 w5 ⟨ho, rfl⟩; have HO := Aside0.mk ho; clear ho))
    exact ⟨rfl, O3.out.trans HO.out, rfl⟩
  have hlen := body_len hb
  have HRES := Aside0.mk (show (if fr58 ⟨a0, a1, l2, a3, l4, a5⟩ then some ((⟨a0, a1, l2, a3, l4, a5⟩ : S58), x) else none) = res by rw [← hres, next, hb]; rfl)
  obtain ⟨b, hb2, hbi⟩ := FrP.right_f a0 a1 l2 a3 l4 a5 (by simp only [] at hlen; omega) 300 (by omega)
  have HRB := Aside0.mk (And.intro hb2 hbi)
  rw [hb] at HB
  clear hb hres hlen hb2 hbi
  go_upto_region 4 with (first | (go_at_call 79; refine (need_ok _).mono ?_; rintro e1 w4 ⟨rfl, rfl⟩) | (go_at_call 99; refine HB.mono ?_; rintro e1 w5 ⟨ho, ⟨v2, v4, rfl, hR2, hR4⟩, hx⟩; obtain ⟨A2, c2, e2⟩ := Kd.R_slice hR2; obtain ⟨A4, c4, e4⟩ := Kd.R_slice hR4; subst e2 e4; have U2 := Aside0.mk (Kd.R_reads' hR2).2; have U4 := Aside0.mk (Kd.R_reads' hR4).2; have R2 := Aside0.mk hR2; have R4 := Aside0.mk hR4; have HO := Aside0.mk ho; have X5 := Aside0.mk hx; clear ho hx hR2 hR4))
  obtain ⟨w6, hw6⟩ : ∃ w6, w5.alloc (.cells #[.int .i64 a0, .int .i64 a1, .slice A2 l2.length c2, .int .i64 a3, .slice A4 l4.length c4, .int .i64 a5] 58) = w6 := ⟨_, rfl⟩
  have hbel : Below w5.heap.size w5 w6 := by rw [← hw6]; exact below_alloc (Below.refl _ _) _
  have hB6 : Blk w6 w5.heap.size [.int .i64 a0, .int .i64 a1, .slice A2 l2.length c2, .int .i64 a3, .slice A4 l4.length c4, .int .i64 a5] := by rw [← hw6]; exact Blk.new w5 _
  have RC := frame_Right.calls 300 a0 a1 A2 c2 l2 a3 A4 c4 l4 a5 b w6 (Kd.C_below U2.out.2 hbel) U2.out.1 (Kd.C_below U4.out.2 hbel) U4.out.1 HRB.out.1
  rw [hw6]
  have hL := HL.out
  have hI := HI.out
  have h5 := HO.out.size
  have Z6 := Aside0.mk (((Z3.out.only HO.out (by omega)).only (Only.of_below hbel : Only (fun _ => False) w5 w6) (fun q => q)))
  have X6 := Aside0.mk (X5.out.below hbel)
  have R26 := Aside0.mk (R_only R2.out (Only.of_below hbel : Only (fun _ => False) w5 w6) (fun _ q => q.elim))
  have R46 := Aside0.mk (R_only R4.out (Only.of_below hbel : Only (fun _ => False) w5 w6) (fun _ q => q.elim))
  have O6 := Aside0.mk ((O3.out.trans HO.out).trans (Only.of_below hbel))
  obtain ⟨hbk, hhb⟩ : ∃ hbk, w5.heap.size = hbk := ⟨_, rfl⟩
  rw [hhb] at hB6 ⊢
  have HB6 := Aside0.mk hB6
  have HJ := Aside0.mk (show b0 < hbk by omega)
  obtain ⟨n2, hn2⟩ : ∃ n2, l2.length = n2 := ⟨_, rfl⟩
  obtain ⟨n4, hn4⟩ : ∃ n4, l4.length = n4 := ⟨_, rfl⟩
  rw [hn2, hn4] at RC HB6
  rw [hn2] at R26
  rw [hn4] at R46
  clear hbel hB6 hw6 hL hI h5 hhb hn2 hn4 U2 U4 R2 R4 HO X5 X3 Z3 O3 HB
  have q0 := HB6.out.cell 0 _ rfl
  have q1 := HB6.out.cell 1 _ rfl
  have q2 := HB6.out.cell 2 _ rfl
  have q3 := HB6.out.cell 3 _ rfl
  have q4 := HB6.out.cell 4 _ rfl
  have q5 := HB6.out.cell 5 _ rfl
  by_cases hfr : fr58 ⟨a0, a1, l2, a3, l4, a5⟩
  rotate_left
  · obtain rfl : none = res := by have := HRES.out; rw [if_neg hfr] at this; exact this
    obtain rfl : b = false := by
      cases b with
      | false => rfl
      | true => exact absurd (HRB.out.2.1 rfl) hfr
    clear hfr
    go_wp2_with (first | (go_at_call 42; refine RC.mono ?_; rintro e1 w7 ⟨rfl, hb7⟩; have HB7 := Aside0.mk hb7; clear hb7) | (go_at_call 79; refine (need_bad _).mono ?_; rintro e1 w4 ⟨rfl, rfl⟩))
    exact ⟨rfl, O6.out.trans (Only.of_below HB7.out), rfl⟩
  obtain rfl : some ((⟨a0, a1, l2, a3, l4, a5⟩ : S58), x) = res := by have := HRES.out; rw [if_pos hfr] at this; exact this
  obtain rfl : b = true := HRB.out.2.2 hfr
  clear hfr
  go_upto_region 5 with (first | (go_at_call 42; refine RC.mono ?_; rintro e1 w7 ⟨rfl, hb7⟩; have HB7 := Aside0.mk hb7; clear hb7) | (go_at_call 79; refine (need_ok _).mono ?_; rintro e1 w4 ⟨rfl, rfl⟩))
  clear RC q0 q1 q2 q3 q4 q5
  have o7 : Only (fun _ => False) w6 w7 := Only.of_below HB7.out
  have B7 := Aside0.mk (HB6.out.only o7 (fun q => q))
  have Z7 := Aside0.mk (Z6.out.only o7 (fun q => q))
  clear o7
  have q0 := B7.out.cell 0 _ rfl
  have q1 := B7.out.cell 1 _ rfl
  have q2 := B7.out.cell 2 _ rfl
  have q3 := B7.out.cell 3 _ rfl
  have q4 := B7.out.cell 4 _ rfl
  have q5 := B7.out.cell 5 _ rfl
  have z0 := Z7.out.cell 0 _ rfl
  have z1 := Z7.out.cell 1 _ rfl
  have z2 := Z7.out.cell 2 _ rfl
  have z3 := Z7.out.cell 3 _ rfl
  have z4 := Z7.out.cell 4 _ rfl
  have z5 := Z7.out.cell 5 _ rfl
  have y0 := Z7.out.frozen 0
  have y1 := Z7.out.frozen 1
  have y2 := Z7.out.frozen 2
  have y3 := Z7.out.frozen 3
  have y4 := Z7.out.frozen 4
  have y5 := Z7.out.frozen 5
  go_wp2
  change bodyPost _ _ _ _ _ (put6 w7 b0 (.int .i64 a0) (.int .i64 a1) (.slice A2 n2 c2) (.int .i64 a3) (.slice A4 n4 c4) (.int .i64 a5))
  have B8 := put6_blk Z7.out (.int .i64 a0) (.int .i64 a1) (.slice A2 n2 c2) (.int .i64 a3) (.slice A4 n4 c4) (.int .i64 a5)
  have O8 := put6_only w7 b0 (.int .i64 a0) (.int .i64 a1) (.slice A2 n2 c2) (.int .i64 a3) (.slice A4 n4 c4) (.int .i64 a5)
  clear q0 q1 q2 q3 q4 q5 z0 z1 z2 z3 z4 z5 y0 y1 y2 y3 y4 y5
  generalize put6 w7 b0 (.int .i64 a0) (.int .i64 a1) (.slice A2 n2 c2) (.int .i64 a3) (.slice A4 n4 c4) (.int .i64 a5) = w8 at *
  have x0 := B8.cell 0 _ rfl
  have x1 := B8.cell 1 _ rfl
  have x2 := B8.cell 2 _ rfl
  have x3 := B8.cell 3 _ rfl
  have x4 := B8.cell 4 _ rfl
  have x5 := B8.cell 5 _ rfl
  refine bodyPost_ret (v := .agg #[.int .i64 a0, .int .i64 a1, .slice A2 n2 c2, .int .i64 a3, .slice A4 n4 c4, .int .i64 a5]) ?_ rfl ?_
  · simp [results, Tryd.results80, go_sem, x0, x1, x2, x3, x4, x5]
  · clear x0 x1 x2 x3 x4 x5 B8
    have hL := HL.out
    have hI := HI.out
    have o7 : Only (fun _ => False) w6 w7 := Only.of_below HB7.out
    have h6 := R_only (R_only R26.out o7 (fun _ q => q.elim)) O8 (fun k q => by omega)
    have h7 := R_only (R_only R46.out o7 (fun _ q => q.elim)) O8 (fun k q => by omega)
    exact ⟨own_only (O6.out.trans (Only.of_below HB7.out)) O8 (by omega), ⟨_, _, rfl, Kd.R_lower h6 hI.2.2, Kd.R_lower h7 hI.2.2⟩, (X6.out.below HB7.out).only O8 (by omega) (by have := X6.out.lo; omega)⟩
set_option maxHeartbeats 2000000 in
set_option maxRecDepth 100000 in
theorem next_crypto {w0 w : World} {rb : Nat} {t : List Int} (h : Rdx w0 w rb (6 :: t)) :
    Calls Tryd.prog 80 #[.pointer (some ⟨rb, 0, none⟩)] w (FrmP w0 w rb (next (6 :: t))) := by
  have hmf : ∀ (fn : Fn) (first cap : Array Value) (w : World), (Instr.makeFunc fn first cap).run Tryd.prog w = .ok (.func fn first cap) w := fun _ _ _ _ => rfl
  have hmm := @run_makeMap Tryd.prog
  have TB := Tbl.mk' w rb
  have i0 := TB.i0
  have i1 := TB.i1
  have i2 := TB.i2
  have i3 := TB.i3
  have i4 := TB.i4
  have i5 := TB.i5
  have i6 := TB.i6
  have i7 := TB.i7
  clear TB
  have hb2 : Below w.heap.size w ((w.alloc (.cells #[.int .i64 0, .int .i64 0, .slice none 0 0, .int .i64 0, .slice none 0 0, .int .i64 0] 58)).alloc (.map #[{ key := .int .u8 0, val := .func (.func 97) #[.pointer (some ⟨rb, 0, none⟩)] #[], born := 0 }, { key := .int .u8 1, val := .func (.func 98) #[.pointer (some ⟨rb, 0, none⟩)] #[], born := 1 }, { key := .int .u8 2, val := .func (.func 99) #[.pointer (some ⟨rb, 0, none⟩)] #[], born := 2 }, { key := .int .u8 6, val := .func (.func 100) #[.pointer (some ⟨rb, 0, none⟩)] #[], born := 3 }, { key := .int .u8 7, val := .func (.func 101) #[.pointer (some ⟨rb, 0, none⟩)] #[], born := 4 }, { key := .int .u8 8, val := .func (.func 102) #[.pointer (some ⟨rb, 0, none⟩)] #[], born := 5 }, { key := .int .u8 28, val := .func (.func 103) #[.pointer (some ⟨rb, 0, none⟩)] #[], born := 6 }, { key := .int .u8 30, val := .func (.func 104) #[.pointer (some ⟨rb, 0, none⟩)] #[], born := 7 }] 8)) := below_alloc (below_alloc (Below.refl _ _) _) _
  have HC := bytes_post (h.below hb2) 1 (by omega)
  rw [rbyt_one] at HC
  have HCA := Aside0.mk HC
  have HF := Aside0.mk (fun (w3 : World) ho => front (w3 := w3) h (.map #[{ key := .int .u8 0, val := .func (.func 97) #[.pointer (some ⟨rb, 0, none⟩)] #[], born := 0 }, { key := .int .u8 1, val := .func (.func 98) #[.pointer (some ⟨rb, 0, none⟩)] #[], born := 1 }, { key := .int .u8 2, val := .func (.func 99) #[.pointer (some ⟨rb, 0, none⟩)] #[], born := 2 }, { key := .int .u8 6, val := .func (.func 100) #[.pointer (some ⟨rb, 0, none⟩)] #[], born := 3 }, { key := .int .u8 7, val := .func (.func 101) #[.pointer (some ⟨rb, 0, none⟩)] #[], born := 4 }, { key := .int .u8 8, val := .func (.func 102) #[.pointer (some ⟨rb, 0, none⟩)] #[], born := 5 }, { key := .int .u8 28, val := .func (.func 103) #[.pointer (some ⟨rb, 0, none⟩)] #[], born := 6 }, { key := .int .u8 30, val := .func (.func 104) #[.pointer (some ⟨rb, 0, none⟩)] #[], born := 7 }] 8) ho)
  have HL := Aside0.mk (show rb < w.heap.size ∧ w0.heap.size ≤ rb from ⟨h.lt, h.lo⟩)
  generalize hres : next (6 :: t) = res
  clear HC hb2 h
  go_enter Tryd.func80, Tryd.ntmps80
  go_upto_region 2 with (go_at_call 105; refine HCA.out.mono ?_; rintro e1 w3 ⟨ho, v1, rfl, hR, hx⟩; obtain ⟨A1, c1, rfl, hl1, hC⟩ := Kd.R_reads hR; obtain ⟨ad, rfl, hc⟩ := Kd.at_int hC 0 (by omega) (by simp); simp only [rd, Int.toNat_zero, List.getD_cons_zero] at hc; rw [show ad.add 0 = ad from rfl] at hc; obtain ⟨hblk, hon, hmap, hsz⟩ := HF.out w3 ho; have hlook := look_run w3 (w.heap.size + 1) #[{ key := .int .u8 0, val := .func (.func 97) #[.pointer (some ⟨rb, 0, none⟩)] #[], born := 0 }, { key := .int .u8 1, val := .func (.func 98) #[.pointer (some ⟨rb, 0, none⟩)] #[], born := 1 }, { key := .int .u8 2, val := .func (.func 99) #[.pointer (some ⟨rb, 0, none⟩)] #[], born := 2 }, { key := .int .u8 6, val := .func (.func 100) #[.pointer (some ⟨rb, 0, none⟩)] #[], born := 3 }, { key := .int .u8 7, val := .func (.func 101) #[.pointer (some ⟨rb, 0, none⟩)] #[], born := 4 }, { key := .int .u8 8, val := .func (.func 102) #[.pointer (some ⟨rb, 0, none⟩)] #[], born := 5 }, { key := .int .u8 28, val := .func (.func 103) #[.pointer (some ⟨rb, 0, none⟩)] #[], born := 6 }, { key := .int .u8 30, val := .func (.func 104) #[.pointer (some ⟨rb, 0, none⟩)] #[], born := 7 }] 8 6 3 (.func (.func 100) #[.pointer (some ⟨rb, 0, none⟩)] #[]) hmap rfl; have X3 := Aside0.mk hx; have Z3 := Aside0.mk hblk; have O3 := Aside0.mk hon; have S3 := Aside0.mk hsz; clear ho hR hx hC hl1 hblk hon hmap hsz)
  have hneq : (binOp .neq 129 (.func (.func 100) #[.pointer (some ⟨rb, 0, none⟩)] #[]) .nilFunc).run Tryd.prog w3 = .ok (.bool true) w3 := neq_func w3 100 rb
  clear i0 i1 i2 i3 i4 i5 i6 i7 hmf hmm HCA HF
  obtain ⟨b0, hb0⟩ : ∃ b0, w.heap.size = b0 := ⟨_, rfl⟩
  have hs3 := S3.out
  have hb0' := hb0
  rw [hb0] at Z3 ⊢
  have HI := Aside0.mk (And.intro hb0 (show b0 < w3.heap.size ∧ w.heap.size ≤ w3.heap.size by omega))
  clear hb0 hb0' hs3 S3
  have HB : Calls Tryd.prog 100 #[.pointer (some ⟨rb, 0, none⟩)] w3 (FrmP w0 w3 rb (body 6 t)) := by
    have := crypto_post X3.out
    exact this
  rcases hb : body 6 t with _ | ⟨⟨a0, a1, l2, a3, l4, a5⟩, x⟩
  · obtain rfl : none = res := by rw [← hres, next, hb]; rfl
    rw [hb] at HB
    clear hb hres
    go_wp2_with (first | (go_at_call 79; refine (need_ok _).mono ?_; rintro e1 w4 ⟨rfl, rfl⟩) | (go_at_call 100; refine HB.mono ?_; rintro e1 w5 ⟨ho, rfl⟩; have HO := Aside0.mk ho; clear ho))
    exact ⟨rfl, O3.out.trans HO.out, rfl⟩
  have hlen := body_len hb
  have HRES := Aside0.mk (show (if fr58 ⟨a0, a1, l2, a3, l4, a5⟩ then some ((⟨a0, a1, l2, a3, l4, a5⟩ : S58), x) else none) = res by rw [← hres, next, hb]; rfl)
  obtain ⟨b, hb2, hbi⟩ := FrP.right_f a0 a1 l2 a3 l4 a5 (by simp only [] at hlen; omega) 300 (by omega)
  have HRB := Aside0.mk (And.intro hb2 hbi)
  rw [hb] at HB
  clear hb hres hlen hb2 hbi
  go_upto_region 4 with (first | (go_at_call 79; refine (need_ok _).mono ?_; rintro e1 w4 ⟨rfl, rfl⟩) | (go_at_call 100; refine HB.mono ?_; rintro e1 w5 ⟨ho, ⟨v2, v4, rfl, hR2, hR4⟩, hx⟩; obtain ⟨A2, c2, e2⟩ := Kd.R_slice hR2; obtain ⟨A4, c4, e4⟩ := Kd.R_slice hR4; subst e2 e4; have U2 := Aside0.mk (Kd.R_reads' hR2).2; have U4 := Aside0.mk (Kd.R_reads' hR4).2; have R2 := Aside0.mk hR2; have R4 := Aside0.mk hR4; have HO := Aside0.mk ho; have X5 := Aside0.mk hx; clear ho hx hR2 hR4))
  obtain ⟨w6, hw6⟩ : ∃ w6, w5.alloc (.cells #[.int .i64 a0, .int .i64 a1, .slice A2 l2.length c2, .int .i64 a3, .slice A4 l4.length c4, .int .i64 a5] 58) = w6 := ⟨_, rfl⟩
  have hbel : Below w5.heap.size w5 w6 := by rw [← hw6]; exact below_alloc (Below.refl _ _) _
  have hB6 : Blk w6 w5.heap.size [.int .i64 a0, .int .i64 a1, .slice A2 l2.length c2, .int .i64 a3, .slice A4 l4.length c4, .int .i64 a5] := by rw [← hw6]; exact Blk.new w5 _
  have RC := frame_Right.calls 300 a0 a1 A2 c2 l2 a3 A4 c4 l4 a5 b w6 (Kd.C_below U2.out.2 hbel) U2.out.1 (Kd.C_below U4.out.2 hbel) U4.out.1 HRB.out.1
  rw [hw6]
  have hL := HL.out
  have hI := HI.out
  have h5 := HO.out.size
  have Z6 := Aside0.mk (((Z3.out.only HO.out (by omega)).only (Only.of_below hbel : Only (fun _ => False) w5 w6) (fun q => q)))
  have X6 := Aside0.mk (X5.out.below hbel)
  have R26 := Aside0.mk (R_only R2.out (Only.of_below hbel : Only (fun _ => False) w5 w6) (fun _ q => q.elim))
  have R46 := Aside0.mk (R_only R4.out (Only.of_below hbel : Only (fun _ => False) w5 w6) (fun _ q => q.elim))
  have O6 := Aside0.mk ((O3.out.trans HO.out).trans (Only.of_below hbel))
  obtain ⟨hbk, hhb⟩ : ∃ hbk, w5.heap.size = hbk := ⟨_, rfl⟩
  rw [hhb] at hB6 ⊢
  have HB6 := Aside0.mk hB6
  have HJ := Aside0.mk (show b0 < hbk by omega)
  obtain ⟨n2, hn2⟩ : ∃ n2, l2.length = n2 := ⟨_, rfl⟩
  obtain ⟨n4, hn4⟩ : ∃ n4, l4.length = n4 := ⟨_, rfl⟩
  rw [hn2, hn4] at RC HB6
  rw [hn2] at R26
  rw [hn4] at R46
  clear hbel hB6 hw6 hL hI h5 hhb hn2 hn4 U2 U4 R2 R4 HO X5 X3 Z3 O3 HB
  have q0 := HB6.out.cell 0 _ rfl
  have q1 := HB6.out.cell 1 _ rfl
  have q2 := HB6.out.cell 2 _ rfl
  have q3 := HB6.out.cell 3 _ rfl
  have q4 := HB6.out.cell 4 _ rfl
  have q5 := HB6.out.cell 5 _ rfl
  by_cases hfr : fr58 ⟨a0, a1, l2, a3, l4, a5⟩
  rotate_left
  · obtain rfl : none = res := by have := HRES.out; rw [if_neg hfr] at this; exact this
    obtain rfl : b = false := by
      cases b with
      | false => rfl
      | true => exact absurd (HRB.out.2.1 rfl) hfr
    clear hfr
    go_wp2_with (first | (go_at_call 42; refine RC.mono ?_; rintro e1 w7 ⟨rfl, hb7⟩; have HB7 := Aside0.mk hb7; clear hb7) | (go_at_call 79; refine (need_bad _).mono ?_; rintro e1 w4 ⟨rfl, rfl⟩))
    exact ⟨rfl, O6.out.trans (Only.of_below HB7.out), rfl⟩
  obtain rfl : some ((⟨a0, a1, l2, a3, l4, a5⟩ : S58), x) = res := by have := HRES.out; rw [if_pos hfr] at this; exact this
  obtain rfl : b = true := HRB.out.2.2 hfr
  clear hfr
  go_upto_region 5 with (first | (go_at_call 42; refine RC.mono ?_; rintro e1 w7 ⟨rfl, hb7⟩; have HB7 := Aside0.mk hb7; clear hb7) | (go_at_call 79; refine (need_ok _).mono ?_; rintro e1 w4 ⟨rfl, rfl⟩))
  clear RC q0 q1 q2 q3 q4 q5
  have o7 : Only (fun _ => False) w6 w7 := Only.of_below HB7.out
  have B7 := Aside0.mk (HB6.out.only o7 (fun q => q))
  have Z7 := Aside0.mk (Z6.out.only o7 (fun q => q))
  clear o7
  have q0 := B7.out.cell 0 _ rfl
  have q1 := B7.out.cell 1 _ rfl
  have q2 := B7.out.cell 2 _ rfl
  have q3 := B7.out.cell 3 _ rfl
  have q4 := B7.out.cell 4 _ rfl
  have q5 := B7.out.cell 5 _ rfl
  have z0 := Z7.out.cell 0 _ rfl
  have z1 := Z7.out.cell 1 _ rfl
  have z2 := Z7.out.cell 2 _ rfl
  have z3 := Z7.out.cell 3 _ rfl
  have z4 := Z7.out.cell 4 _ rfl
  have z5 := Z7.out.cell 5 _ rfl
  have y0 := Z7.out.frozen 0
  have y1 := Z7.out.frozen 1
  have y2 := Z7.out.frozen 2
  have y3 := Z7.out.frozen 3
  have y4 := Z7.out.frozen 4
  have y5 := Z7.out.frozen 5
  go_wp2
  change bodyPost _ _ _ _ _ (put6 w7 b0 (.int .i64 a0) (.int .i64 a1) (.slice A2 n2 c2) (.int .i64 a3) (.slice A4 n4 c4) (.int .i64 a5))
  have B8 := put6_blk Z7.out (.int .i64 a0) (.int .i64 a1) (.slice A2 n2 c2) (.int .i64 a3) (.slice A4 n4 c4) (.int .i64 a5)
  have O8 := put6_only w7 b0 (.int .i64 a0) (.int .i64 a1) (.slice A2 n2 c2) (.int .i64 a3) (.slice A4 n4 c4) (.int .i64 a5)
  clear q0 q1 q2 q3 q4 q5 z0 z1 z2 z3 z4 z5 y0 y1 y2 y3 y4 y5
  generalize put6 w7 b0 (.int .i64 a0) (.int .i64 a1) (.slice A2 n2 c2) (.int .i64 a3) (.slice A4 n4 c4) (.int .i64 a5) = w8 at *
  have x0 := B8.cell 0 _ rfl
  have x1 := B8.cell 1 _ rfl
  have x2 := B8.cell 2 _ rfl
  have x3 := B8.cell 3 _ rfl
  have x4 := B8.cell 4 _ rfl
  have x5 := B8.cell 5 _ rfl
  refine bodyPost_ret (v := .agg #[.int .i64 a0, .int .i64 a1, .slice A2 n2 c2, .int .i64 a3, .slice A4 n4 c4, .int .i64 a5]) ?_ rfl ?_
  · simp [results, Tryd.results80, go_sem, x0, x1, x2, x3, x4, x5]
  · clear x0 x1 x2 x3 x4 x5 B8
    have hL := HL.out
    have hI := HI.out
    have o7 : Only (fun _ => False) w6 w7 := Only.of_below HB7.out
    have h6 := R_only (R_only R26.out o7 (fun _ q => q.elim)) O8 (fun k q => by omega)
    have h7 := R_only (R_only R46.out o7 (fun _ q => q.elim)) O8 (fun k q => by omega)
    exact ⟨own_only (O6.out.trans (Only.of_below HB7.out)) O8 (by omega), ⟨_, _, rfl, Kd.R_lower h6 hI.2.2, Kd.R_lower h7 hI.2.2⟩, (X6.out.below HB7.out).only O8 (by omega) (by have := X6.out.lo; omega)⟩
end Go.Proofs.YtbcleckapamicaaDoor.Fd
namespace Go.Proofs.YtbcleckapamicaaDoor.Fd
open Go Go.RowKit Go.Proofs.YtbcleckapamicaaDoorW.PrintWords Go.Proofs.YtbcleckapamicaaDoorW.PrintLast Go.Proofs.YtbcleckapamicaaDoorW.PrintMore
open Go.Proofs.YtbcleckapamicaaDoor.QFr (S58 S103 k58 k103 frame_Right.calls)
open Go.Proofs.YtbcleckapamicaaDoor.Onl (Only)
open Go.Proofs.YtbcleckapamicaaDoor.Vn (vread vsize num)
set_option linter.unusedVariables false
set_option linter.unusedSimpArgs false
set_option maxHeartbeats 2000000 in
set_option maxRecDepth 100000 in
theorem next_token {w0 w : World} {rb : Nat} {t : List Int} (h : Rdx w0 w rb (7 :: t)) :
    Calls Tryd.prog 80 #[.pointer (some ⟨rb, 0, none⟩)] w (FrmP w0 w rb (next (7 :: t))) := by
  have hmf : ∀ (fn : Fn) (first cap : Array Value) (w : World), (Instr.makeFunc fn first cap).run Tryd.prog w = .ok (.func fn first cap) w := fun _ _ _ _ => rfl
  have hmm := @run_makeMap Tryd.prog
  have TB := Tbl.mk' w rb
  have i0 := TB.i0
  have i1 := TB.i1
  have i2 := TB.i2
  have i3 := TB.i3
  have i4 := TB.i4
  have i5 := TB.i5
  have i6 := TB.i6
  have i7 := TB.i7
  clear TB
  have hb2 : Below w.heap.size w ((w.alloc (.cells #[.int .i64 0, .int .i64 0, .slice none 0 0, .int .i64 0, .slice none 0 0, .int .i64 0] 58)).alloc (.map #[{ key := .int .u8 0, val := .func (.func 97) #[.pointer (some ⟨rb, 0, none⟩)] #[], born := 0 }, { key := .int .u8 1, val := .func (.func 98) #[.pointer (some ⟨rb, 0, none⟩)] #[], born := 1 }, { key := .int .u8 2, val := .func (.func 99) #[.pointer (some ⟨rb, 0, none⟩)] #[], born := 2 }, { key := .int .u8 6, val := .func (.func 100) #[.pointer (some ⟨rb, 0, none⟩)] #[], born := 3 }, { key := .int .u8 7, val := .func (.func 101) #[.pointer (some ⟨rb, 0, none⟩)] #[], born := 4 }, { key := .int .u8 8, val := .func (.func 102) #[.pointer (some ⟨rb, 0, none⟩)] #[], born := 5 }, { key := .int .u8 28, val := .func (.func 103) #[.pointer (some ⟨rb, 0, none⟩)] #[], born := 6 }, { key := .int .u8 30, val := .func (.func 104) #[.pointer (some ⟨rb, 0, none⟩)] #[], born := 7 }] 8)) := below_alloc (below_alloc (Below.refl _ _) _) _
  have HC := bytes_post (h.below hb2) 1 (by omega)
  rw [rbyt_one] at HC
  have HCA := Aside0.mk HC
  have HF := Aside0.mk (fun (w3 : World) ho => front (w3 := w3) h (.map #[{ key := .int .u8 0, val := .func (.func 97) #[.pointer (some ⟨rb, 0, none⟩)] #[], born := 0 }, { key := .int .u8 1, val := .func (.func 98) #[.pointer (some ⟨rb, 0, none⟩)] #[], born := 1 }, { key := .int .u8 2, val := .func (.func 99) #[.pointer (some ⟨rb, 0, none⟩)] #[], born := 2 }, { key := .int .u8 6, val := .func (.func 100) #[.pointer (some ⟨rb, 0, none⟩)] #[], born := 3 }, { key := .int .u8 7, val := .func (.func 101) #[.pointer (some ⟨rb, 0, none⟩)] #[], born := 4 }, { key := .int .u8 8, val := .func (.func 102) #[.pointer (some ⟨rb, 0, none⟩)] #[], born := 5 }, { key := .int .u8 28, val := .func (.func 103) #[.pointer (some ⟨rb, 0, none⟩)] #[], born := 6 }, { key := .int .u8 30, val := .func (.func 104) #[.pointer (some ⟨rb, 0, none⟩)] #[], born := 7 }] 8) ho)
  have HL := Aside0.mk (show rb < w.heap.size ∧ w0.heap.size ≤ rb from ⟨h.lt, h.lo⟩)
  generalize hres : next (7 :: t) = res
  clear HC hb2 h
  go_enter Tryd.func80, Tryd.ntmps80
  go_upto_region 2 with (go_at_call 105; refine HCA.out.mono ?_; rintro e1 w3 ⟨ho, v1, rfl, hR, hx⟩; obtain ⟨A1, c1, rfl, hl1, hC⟩ := Kd.R_reads hR; obtain ⟨ad, rfl, hc⟩ := Kd.at_int hC 0 (by omega) (by simp); simp only [rd, Int.toNat_zero, List.getD_cons_zero] at hc; rw [show ad.add 0 = ad from rfl] at hc; obtain ⟨hblk, hon, hmap, hsz⟩ := HF.out w3 ho; have hlook := look_run w3 (w.heap.size + 1) #[{ key := .int .u8 0, val := .func (.func 97) #[.pointer (some ⟨rb, 0, none⟩)] #[], born := 0 }, { key := .int .u8 1, val := .func (.func 98) #[.pointer (some ⟨rb, 0, none⟩)] #[], born := 1 }, { key := .int .u8 2, val := .func (.func 99) #[.pointer (some ⟨rb, 0, none⟩)] #[], born := 2 }, { key := .int .u8 6, val := .func (.func 100) #[.pointer (some ⟨rb, 0, none⟩)] #[], born := 3 }, { key := .int .u8 7, val := .func (.func 101) #[.pointer (some ⟨rb, 0, none⟩)] #[], born := 4 }, { key := .int .u8 8, val := .func (.func 102) #[.pointer (some ⟨rb, 0, none⟩)] #[], born := 5 }, { key := .int .u8 28, val := .func (.func 103) #[.pointer (some ⟨rb, 0, none⟩)] #[], born := 6 }, { key := .int .u8 30, val := .func (.func 104) #[.pointer (some ⟨rb, 0, none⟩)] #[], born := 7 }] 8 7 4 (.func (.func 101) #[.pointer (some ⟨rb, 0, none⟩)] #[]) hmap rfl; have X3 := Aside0.mk hx; have Z3 := Aside0.mk hblk; have O3 := Aside0.mk hon; have S3 := Aside0.mk hsz; clear ho hR hx hC hl1 hblk hon hmap hsz)
  have hneq : (binOp .neq 129 (.func (.func 101) #[.pointer (some ⟨rb, 0, none⟩)] #[]) .nilFunc).run Tryd.prog w3 = .ok (.bool true) w3 := neq_func w3 101 rb
  clear i0 i1 i2 i3 i4 i5 i6 i7 hmf hmm HCA HF
  obtain ⟨b0, hb0⟩ : ∃ b0, w.heap.size = b0 := ⟨_, rfl⟩
  have hs3 := S3.out
  have hb0' := hb0
  rw [hb0] at Z3 ⊢
  have HI := Aside0.mk (And.intro hb0 (show b0 < w3.heap.size ∧ w.heap.size ≤ w3.heap.size by omega))
  clear hb0 hb0' hs3 S3
  have HB : Calls Tryd.prog 101 #[.pointer (some ⟨rb, 0, none⟩)] w3 (FrmP w0 w3 rb (body 7 t)) := by
    have := token_post X3.out
    exact this
  rcases hb : body 7 t with _ | ⟨⟨a0, a1, l2, a3, l4, a5⟩, x⟩
  · obtain rfl : none = res := by rw [← hres, next, hb]; rfl
    rw [hb] at HB
    clear hb hres
    go_wp2_with (first | (go_at_call 79; refine (need_ok _).mono ?_; rintro e1 w4 ⟨rfl, rfl⟩) | (go_at_call 101; refine HB.mono ?_; rintro e1 w5 ⟨ho, rfl⟩; have HO := Aside0.mk ho; clear ho))
    exact ⟨rfl, O3.out.trans HO.out, rfl⟩
  have hlen := body_len hb
  have HRES := Aside0.mk (show (if fr58 ⟨a0, a1, l2, a3, l4, a5⟩ then some ((⟨a0, a1, l2, a3, l4, a5⟩ : S58), x) else none) = res by rw [← hres, next, hb]; rfl)
  obtain ⟨b, hb2, hbi⟩ := FrP.right_f a0 a1 l2 a3 l4 a5 (by simp only [] at hlen; omega) 300 (by omega)
  have HRB := Aside0.mk (And.intro hb2 hbi)
  rw [hb] at HB
  clear hb hres hlen hb2 hbi
  go_upto_region 4 with (first | (go_at_call 79; refine (need_ok _).mono ?_; rintro e1 w4 ⟨rfl, rfl⟩) | (go_at_call 101; refine HB.mono ?_; rintro e1 w5 ⟨ho, ⟨v2, v4, rfl, hR2, hR4⟩, hx⟩; obtain ⟨A2, c2, e2⟩ := Kd.R_slice hR2; obtain ⟨A4, c4, e4⟩ := Kd.R_slice hR4; subst e2 e4; have U2 := Aside0.mk (Kd.R_reads' hR2).2; have U4 := Aside0.mk (Kd.R_reads' hR4).2; have R2 := Aside0.mk hR2; have R4 := Aside0.mk hR4; have HO := Aside0.mk ho; have X5 := Aside0.mk hx; clear ho hx hR2 hR4))
  obtain ⟨w6, hw6⟩ : ∃ w6, w5.alloc (.cells #[.int .i64 a0, .int .i64 a1, .slice A2 l2.length c2, .int .i64 a3, .slice A4 l4.length c4, .int .i64 a5] 58) = w6 := ⟨_, rfl⟩
  have hbel : Below w5.heap.size w5 w6 := by rw [← hw6]; exact below_alloc (Below.refl _ _) _
  have hB6 : Blk w6 w5.heap.size [.int .i64 a0, .int .i64 a1, .slice A2 l2.length c2, .int .i64 a3, .slice A4 l4.length c4, .int .i64 a5] := by rw [← hw6]; exact Blk.new w5 _
  have RC := frame_Right.calls 300 a0 a1 A2 c2 l2 a3 A4 c4 l4 a5 b w6 (Kd.C_below U2.out.2 hbel) U2.out.1 (Kd.C_below U4.out.2 hbel) U4.out.1 HRB.out.1
  rw [hw6]
  have hL := HL.out
  have hI := HI.out
  have h5 := HO.out.size
  have Z6 := Aside0.mk (((Z3.out.only HO.out (by omega)).only (Only.of_below hbel : Only (fun _ => False) w5 w6) (fun q => q)))
  have X6 := Aside0.mk (X5.out.below hbel)
  have R26 := Aside0.mk (R_only R2.out (Only.of_below hbel : Only (fun _ => False) w5 w6) (fun _ q => q.elim))
  have R46 := Aside0.mk (R_only R4.out (Only.of_below hbel : Only (fun _ => False) w5 w6) (fun _ q => q.elim))
  have O6 := Aside0.mk ((O3.out.trans HO.out).trans (Only.of_below hbel))
  obtain ⟨hbk, hhb⟩ : ∃ hbk, w5.heap.size = hbk := ⟨_, rfl⟩
  rw [hhb] at hB6 ⊢
  have HB6 := Aside0.mk hB6
  have HJ := Aside0.mk (show b0 < hbk by omega)
  obtain ⟨n2, hn2⟩ : ∃ n2, l2.length = n2 := ⟨_, rfl⟩
  obtain ⟨n4, hn4⟩ : ∃ n4, l4.length = n4 := ⟨_, rfl⟩
  rw [hn2, hn4] at RC HB6
  rw [hn2] at R26
  rw [hn4] at R46
  clear hbel hB6 hw6 hL hI h5 hhb hn2 hn4 U2 U4 R2 R4 HO X5 X3 Z3 O3 HB
  have q0 := HB6.out.cell 0 _ rfl
  have q1 := HB6.out.cell 1 _ rfl
  have q2 := HB6.out.cell 2 _ rfl
  have q3 := HB6.out.cell 3 _ rfl
  have q4 := HB6.out.cell 4 _ rfl
  have q5 := HB6.out.cell 5 _ rfl
  by_cases hfr : fr58 ⟨a0, a1, l2, a3, l4, a5⟩
  rotate_left
  · obtain rfl : none = res := by have := HRES.out; rw [if_neg hfr] at this; exact this
    obtain rfl : b = false := by
      cases b with
      | false => rfl
      | true => exact absurd (HRB.out.2.1 rfl) hfr
    clear hfr
    go_wp2_with (first | (go_at_call 42; refine RC.mono ?_; rintro e1 w7 ⟨rfl, hb7⟩; have HB7 := Aside0.mk hb7; clear hb7) | (go_at_call 79; refine (need_bad _).mono ?_; rintro e1 w4 ⟨rfl, rfl⟩))
    exact ⟨rfl, O6.out.trans (Only.of_below HB7.out), rfl⟩
  obtain rfl : some ((⟨a0, a1, l2, a3, l4, a5⟩ : S58), x) = res := by have := HRES.out; rw [if_pos hfr] at this; exact this
  obtain rfl : b = true := HRB.out.2.2 hfr
  clear hfr
  go_upto_region 5 with (first | (go_at_call 42; refine RC.mono ?_; rintro e1 w7 ⟨rfl, hb7⟩; have HB7 := Aside0.mk hb7; clear hb7) | (go_at_call 79; refine (need_ok _).mono ?_; rintro e1 w4 ⟨rfl, rfl⟩))
  clear RC q0 q1 q2 q3 q4 q5
  have o7 : Only (fun _ => False) w6 w7 := Only.of_below HB7.out
  have B7 := Aside0.mk (HB6.out.only o7 (fun q => q))
  have Z7 := Aside0.mk (Z6.out.only o7 (fun q => q))
  clear o7
  have q0 := B7.out.cell 0 _ rfl
  have q1 := B7.out.cell 1 _ rfl
  have q2 := B7.out.cell 2 _ rfl
  have q3 := B7.out.cell 3 _ rfl
  have q4 := B7.out.cell 4 _ rfl
  have q5 := B7.out.cell 5 _ rfl
  have z0 := Z7.out.cell 0 _ rfl
  have z1 := Z7.out.cell 1 _ rfl
  have z2 := Z7.out.cell 2 _ rfl
  have z3 := Z7.out.cell 3 _ rfl
  have z4 := Z7.out.cell 4 _ rfl
  have z5 := Z7.out.cell 5 _ rfl
  have y0 := Z7.out.frozen 0
  have y1 := Z7.out.frozen 1
  have y2 := Z7.out.frozen 2
  have y3 := Z7.out.frozen 3
  have y4 := Z7.out.frozen 4
  have y5 := Z7.out.frozen 5
  go_wp2
  change bodyPost _ _ _ _ _ (put6 w7 b0 (.int .i64 a0) (.int .i64 a1) (.slice A2 n2 c2) (.int .i64 a3) (.slice A4 n4 c4) (.int .i64 a5))
  have B8 := put6_blk Z7.out (.int .i64 a0) (.int .i64 a1) (.slice A2 n2 c2) (.int .i64 a3) (.slice A4 n4 c4) (.int .i64 a5)
  have O8 := put6_only w7 b0 (.int .i64 a0) (.int .i64 a1) (.slice A2 n2 c2) (.int .i64 a3) (.slice A4 n4 c4) (.int .i64 a5)
  clear q0 q1 q2 q3 q4 q5 z0 z1 z2 z3 z4 z5 y0 y1 y2 y3 y4 y5
  generalize put6 w7 b0 (.int .i64 a0) (.int .i64 a1) (.slice A2 n2 c2) (.int .i64 a3) (.slice A4 n4 c4) (.int .i64 a5) = w8 at *
  have x0 := B8.cell 0 _ rfl
  have x1 := B8.cell 1 _ rfl
  have x2 := B8.cell 2 _ rfl
  have x3 := B8.cell 3 _ rfl
  have x4 := B8.cell 4 _ rfl
  have x5 := B8.cell 5 _ rfl
  refine bodyPost_ret (v := .agg #[.int .i64 a0, .int .i64 a1, .slice A2 n2 c2, .int .i64 a3, .slice A4 n4 c4, .int .i64 a5]) ?_ rfl ?_
  · simp [results, Tryd.results80, go_sem, x0, x1, x2, x3, x4, x5]
  · clear x0 x1 x2 x3 x4 x5 B8
    have hL := HL.out
    have hI := HI.out
    have o7 : Only (fun _ => False) w6 w7 := Only.of_below HB7.out
    have h6 := R_only (R_only R26.out o7 (fun _ q => q.elim)) O8 (fun k q => by omega)
    have h7 := R_only (R_only R46.out o7 (fun _ q => q.elim)) O8 (fun k q => by omega)
    exact ⟨own_only (O6.out.trans (Only.of_below HB7.out)) O8 (by omega), ⟨_, _, rfl, Kd.R_lower h6 hI.2.2, Kd.R_lower h7 hI.2.2⟩, (X6.out.below HB7.out).only O8 (by omega) (by have := X6.out.lo; omega)⟩
set_option maxHeartbeats 2000000 in
set_option maxRecDepth 100000 in
theorem next_data {w0 w : World} {rb : Nat} {t : List Int} (h : Rdx w0 w rb (8 :: t)) :
    Calls Tryd.prog 80 #[.pointer (some ⟨rb, 0, none⟩)] w (FrmP w0 w rb (next (8 :: t))) := by
  have hmf : ∀ (fn : Fn) (first cap : Array Value) (w : World), (Instr.makeFunc fn first cap).run Tryd.prog w = .ok (.func fn first cap) w := fun _ _ _ _ => rfl
  have hmm := @run_makeMap Tryd.prog
  have TB := Tbl.mk' w rb
  have i0 := TB.i0
  have i1 := TB.i1
  have i2 := TB.i2
  have i3 := TB.i3
  have i4 := TB.i4
  have i5 := TB.i5
  have i6 := TB.i6
  have i7 := TB.i7
  clear TB
  have hb2 : Below w.heap.size w ((w.alloc (.cells #[.int .i64 0, .int .i64 0, .slice none 0 0, .int .i64 0, .slice none 0 0, .int .i64 0] 58)).alloc (.map #[{ key := .int .u8 0, val := .func (.func 97) #[.pointer (some ⟨rb, 0, none⟩)] #[], born := 0 }, { key := .int .u8 1, val := .func (.func 98) #[.pointer (some ⟨rb, 0, none⟩)] #[], born := 1 }, { key := .int .u8 2, val := .func (.func 99) #[.pointer (some ⟨rb, 0, none⟩)] #[], born := 2 }, { key := .int .u8 6, val := .func (.func 100) #[.pointer (some ⟨rb, 0, none⟩)] #[], born := 3 }, { key := .int .u8 7, val := .func (.func 101) #[.pointer (some ⟨rb, 0, none⟩)] #[], born := 4 }, { key := .int .u8 8, val := .func (.func 102) #[.pointer (some ⟨rb, 0, none⟩)] #[], born := 5 }, { key := .int .u8 28, val := .func (.func 103) #[.pointer (some ⟨rb, 0, none⟩)] #[], born := 6 }, { key := .int .u8 30, val := .func (.func 104) #[.pointer (some ⟨rb, 0, none⟩)] #[], born := 7 }] 8)) := below_alloc (below_alloc (Below.refl _ _) _) _
  have HC := bytes_post (h.below hb2) 1 (by omega)
  rw [rbyt_one] at HC
  have HCA := Aside0.mk HC
  have HF := Aside0.mk (fun (w3 : World) ho => front (w3 := w3) h (.map #[{ key := .int .u8 0, val := .func (.func 97) #[.pointer (some ⟨rb, 0, none⟩)] #[], born := 0 }, { key := .int .u8 1, val := .func (.func 98) #[.pointer (some ⟨rb, 0, none⟩)] #[], born := 1 }, { key := .int .u8 2, val := .func (.func 99) #[.pointer (some ⟨rb, 0, none⟩)] #[], born := 2 }, { key := .int .u8 6, val := .func (.func 100) #[.pointer (some ⟨rb, 0, none⟩)] #[], born := 3 }, { key := .int .u8 7, val := .func (.func 101) #[.pointer (some ⟨rb, 0, none⟩)] #[], born := 4 }, { key := .int .u8 8, val := .func (.func 102) #[.pointer (some ⟨rb, 0, none⟩)] #[], born := 5 }, { key := .int .u8 28, val := .func (.func 103) #[.pointer (some ⟨rb, 0, none⟩)] #[], born := 6 }, { key := .int .u8 30, val := .func (.func 104) #[.pointer (some ⟨rb, 0, none⟩)] #[], born := 7 }] 8) ho)
  have HL := Aside0.mk (show rb < w.heap.size ∧ w0.heap.size ≤ rb from ⟨h.lt, h.lo⟩)
  generalize hres : next (8 :: t) = res
  clear HC hb2 h
  go_enter Tryd.func80, Tryd.ntmps80
  go_upto_region 2 with (go_at_call 105; refine HCA.out.mono ?_; rintro e1 w3 ⟨ho, v1, rfl, hR, hx⟩; obtain ⟨A1, c1, rfl, hl1, hC⟩ := Kd.R_reads hR; obtain ⟨ad, rfl, hc⟩ := Kd.at_int hC 0 (by omega) (by simp); simp only [rd, Int.toNat_zero, List.getD_cons_zero] at hc; rw [show ad.add 0 = ad from rfl] at hc; obtain ⟨hblk, hon, hmap, hsz⟩ := HF.out w3 ho; have hlook := look_run w3 (w.heap.size + 1) #[{ key := .int .u8 0, val := .func (.func 97) #[.pointer (some ⟨rb, 0, none⟩)] #[], born := 0 }, { key := .int .u8 1, val := .func (.func 98) #[.pointer (some ⟨rb, 0, none⟩)] #[], born := 1 }, { key := .int .u8 2, val := .func (.func 99) #[.pointer (some ⟨rb, 0, none⟩)] #[], born := 2 }, { key := .int .u8 6, val := .func (.func 100) #[.pointer (some ⟨rb, 0, none⟩)] #[], born := 3 }, { key := .int .u8 7, val := .func (.func 101) #[.pointer (some ⟨rb, 0, none⟩)] #[], born := 4 }, { key := .int .u8 8, val := .func (.func 102) #[.pointer (some ⟨rb, 0, none⟩)] #[], born := 5 }, { key := .int .u8 28, val := .func (.func 103) #[.pointer (some ⟨rb, 0, none⟩)] #[], born := 6 }, { key := .int .u8 30, val := .func (.func 104) #[.pointer (some ⟨rb, 0, none⟩)] #[], born := 7 }] 8 8 5 (.func (.func 102) #[.pointer (some ⟨rb, 0, none⟩)] #[]) hmap rfl; have X3 := Aside0.mk hx; have Z3 := Aside0.mk hblk; have O3 := Aside0.mk hon; have S3 := Aside0.mk hsz; clear ho hR hx hC hl1 hblk hon hmap hsz)
  have hneq : (binOp .neq 129 (.func (.func 102) #[.pointer (some ⟨rb, 0, none⟩)] #[]) .nilFunc).run Tryd.prog w3 = .ok (.bool true) w3 := neq_func w3 102 rb
  clear i0 i1 i2 i3 i4 i5 i6 i7 hmf hmm HCA HF
  obtain ⟨b0, hb0⟩ : ∃ b0, w.heap.size = b0 := ⟨_, rfl⟩
  have hs3 := S3.out
  have hb0' := hb0
  rw [hb0] at Z3 ⊢
  have HI := Aside0.mk (And.intro hb0 (show b0 < w3.heap.size ∧ w.heap.size ≤ w3.heap.size by omega))
  clear hb0 hb0' hs3 S3
  have HB : Calls Tryd.prog 102 #[.pointer (some ⟨rb, 0, none⟩)] w3 (FrmP w0 w3 rb (body 8 t)) := by
    have := data_post X3.out
    exact this
  rcases hb : body 8 t with _ | ⟨⟨a0, a1, l2, a3, l4, a5⟩, x⟩
  · obtain rfl : none = res := by rw [← hres, next, hb]; rfl
    rw [hb] at HB
    clear hb hres
    go_wp2_with (first | (go_at_call 79; refine (need_ok _).mono ?_; rintro e1 w4 ⟨rfl, rfl⟩) | (go_at_call 102; refine HB.mono ?_; rintro e1 w5 ⟨ho, rfl⟩; have HO := Aside0.mk ho; clear ho))
    exact ⟨rfl, O3.out.trans HO.out, rfl⟩
  have hlen := body_len hb
  have HRES := Aside0.mk (show (if fr58 ⟨a0, a1, l2, a3, l4, a5⟩ then some ((⟨a0, a1, l2, a3, l4, a5⟩ : S58), x) else none) = res by rw [← hres, next, hb]; rfl)
  obtain ⟨b, hb2, hbi⟩ := FrP.right_f a0 a1 l2 a3 l4 a5 (by simp only [] at hlen; omega) 300 (by omega)
  have HRB := Aside0.mk (And.intro hb2 hbi)
  rw [hb] at HB
  clear hb hres hlen hb2 hbi
  go_upto_region 4 with (first | (go_at_call 79; refine (need_ok _).mono ?_; rintro e1 w4 ⟨rfl, rfl⟩) | (go_at_call 102; refine HB.mono ?_; rintro e1 w5 ⟨ho, ⟨v2, v4, rfl, hR2, hR4⟩, hx⟩; obtain ⟨A2, c2, e2⟩ := Kd.R_slice hR2; obtain ⟨A4, c4, e4⟩ := Kd.R_slice hR4; subst e2 e4; have U2 := Aside0.mk (Kd.R_reads' hR2).2; have U4 := Aside0.mk (Kd.R_reads' hR4).2; have R2 := Aside0.mk hR2; have R4 := Aside0.mk hR4; have HO := Aside0.mk ho; have X5 := Aside0.mk hx; clear ho hx hR2 hR4))
  obtain ⟨w6, hw6⟩ : ∃ w6, w5.alloc (.cells #[.int .i64 a0, .int .i64 a1, .slice A2 l2.length c2, .int .i64 a3, .slice A4 l4.length c4, .int .i64 a5] 58) = w6 := ⟨_, rfl⟩
  have hbel : Below w5.heap.size w5 w6 := by rw [← hw6]; exact below_alloc (Below.refl _ _) _
  have hB6 : Blk w6 w5.heap.size [.int .i64 a0, .int .i64 a1, .slice A2 l2.length c2, .int .i64 a3, .slice A4 l4.length c4, .int .i64 a5] := by rw [← hw6]; exact Blk.new w5 _
  have RC := frame_Right.calls 300 a0 a1 A2 c2 l2 a3 A4 c4 l4 a5 b w6 (Kd.C_below U2.out.2 hbel) U2.out.1 (Kd.C_below U4.out.2 hbel) U4.out.1 HRB.out.1
  rw [hw6]
  have hL := HL.out
  have hI := HI.out
  have h5 := HO.out.size
  have Z6 := Aside0.mk (((Z3.out.only HO.out (by omega)).only (Only.of_below hbel : Only (fun _ => False) w5 w6) (fun q => q)))
  have X6 := Aside0.mk (X5.out.below hbel)
  have R26 := Aside0.mk (R_only R2.out (Only.of_below hbel : Only (fun _ => False) w5 w6) (fun _ q => q.elim))
  have R46 := Aside0.mk (R_only R4.out (Only.of_below hbel : Only (fun _ => False) w5 w6) (fun _ q => q.elim))
  have O6 := Aside0.mk ((O3.out.trans HO.out).trans (Only.of_below hbel))
  obtain ⟨hbk, hhb⟩ : ∃ hbk, w5.heap.size = hbk := ⟨_, rfl⟩
  rw [hhb] at hB6 ⊢
  have HB6 := Aside0.mk hB6
  have HJ := Aside0.mk (show b0 < hbk by omega)
  obtain ⟨n2, hn2⟩ : ∃ n2, l2.length = n2 := ⟨_, rfl⟩
  obtain ⟨n4, hn4⟩ : ∃ n4, l4.length = n4 := ⟨_, rfl⟩
  rw [hn2, hn4] at RC HB6
  rw [hn2] at R26
  rw [hn4] at R46
  clear hbel hB6 hw6 hL hI h5 hhb hn2 hn4 U2 U4 R2 R4 HO X5 X3 Z3 O3 HB
  have q0 := HB6.out.cell 0 _ rfl
  have q1 := HB6.out.cell 1 _ rfl
  have q2 := HB6.out.cell 2 _ rfl
  have q3 := HB6.out.cell 3 _ rfl
  have q4 := HB6.out.cell 4 _ rfl
  have q5 := HB6.out.cell 5 _ rfl
  by_cases hfr : fr58 ⟨a0, a1, l2, a3, l4, a5⟩
  rotate_left
  · obtain rfl : none = res := by have := HRES.out; rw [if_neg hfr] at this; exact this
    obtain rfl : b = false := by
      cases b with
      | false => rfl
      | true => exact absurd (HRB.out.2.1 rfl) hfr
    clear hfr
    go_wp2_with (first | (go_at_call 42; refine RC.mono ?_; rintro e1 w7 ⟨rfl, hb7⟩; have HB7 := Aside0.mk hb7; clear hb7) | (go_at_call 79; refine (need_bad _).mono ?_; rintro e1 w4 ⟨rfl, rfl⟩))
    exact ⟨rfl, O6.out.trans (Only.of_below HB7.out), rfl⟩
  obtain rfl : some ((⟨a0, a1, l2, a3, l4, a5⟩ : S58), x) = res := by have := HRES.out; rw [if_pos hfr] at this; exact this
  obtain rfl : b = true := HRB.out.2.2 hfr
  clear hfr
  go_upto_region 5 with (first | (go_at_call 42; refine RC.mono ?_; rintro e1 w7 ⟨rfl, hb7⟩; have HB7 := Aside0.mk hb7; clear hb7) | (go_at_call 79; refine (need_ok _).mono ?_; rintro e1 w4 ⟨rfl, rfl⟩))
  clear RC q0 q1 q2 q3 q4 q5
  have o7 : Only (fun _ => False) w6 w7 := Only.of_below HB7.out
  have B7 := Aside0.mk (HB6.out.only o7 (fun q => q))
  have Z7 := Aside0.mk (Z6.out.only o7 (fun q => q))
  clear o7
  have q0 := B7.out.cell 0 _ rfl
  have q1 := B7.out.cell 1 _ rfl
  have q2 := B7.out.cell 2 _ rfl
  have q3 := B7.out.cell 3 _ rfl
  have q4 := B7.out.cell 4 _ rfl
  have q5 := B7.out.cell 5 _ rfl
  have z0 := Z7.out.cell 0 _ rfl
  have z1 := Z7.out.cell 1 _ rfl
  have z2 := Z7.out.cell 2 _ rfl
  have z3 := Z7.out.cell 3 _ rfl
  have z4 := Z7.out.cell 4 _ rfl
  have z5 := Z7.out.cell 5 _ rfl
  have y0 := Z7.out.frozen 0
  have y1 := Z7.out.frozen 1
  have y2 := Z7.out.frozen 2
  have y3 := Z7.out.frozen 3
  have y4 := Z7.out.frozen 4
  have y5 := Z7.out.frozen 5
  go_wp2
  change bodyPost _ _ _ _ _ (put6 w7 b0 (.int .i64 a0) (.int .i64 a1) (.slice A2 n2 c2) (.int .i64 a3) (.slice A4 n4 c4) (.int .i64 a5))
  have B8 := put6_blk Z7.out (.int .i64 a0) (.int .i64 a1) (.slice A2 n2 c2) (.int .i64 a3) (.slice A4 n4 c4) (.int .i64 a5)
  have O8 := put6_only w7 b0 (.int .i64 a0) (.int .i64 a1) (.slice A2 n2 c2) (.int .i64 a3) (.slice A4 n4 c4) (.int .i64 a5)
  clear q0 q1 q2 q3 q4 q5 z0 z1 z2 z3 z4 z5 y0 y1 y2 y3 y4 y5
  generalize put6 w7 b0 (.int .i64 a0) (.int .i64 a1) (.slice A2 n2 c2) (.int .i64 a3) (.slice A4 n4 c4) (.int .i64 a5) = w8 at *
  have x0 := B8.cell 0 _ rfl
  have x1 := B8.cell 1 _ rfl
  have x2 := B8.cell 2 _ rfl
  have x3 := B8.cell 3 _ rfl
  have x4 := B8.cell 4 _ rfl
  have x5 := B8.cell 5 _ rfl
  refine bodyPost_ret (v := .agg #[.int .i64 a0, .int .i64 a1, .slice A2 n2 c2, .int .i64 a3, .slice A4 n4 c4, .int .i64 a5]) ?_ rfl ?_
  · simp [results, Tryd.results80, go_sem, x0, x1, x2, x3, x4, x5]
  · clear x0 x1 x2 x3 x4 x5 B8
    have hL := HL.out
    have hI := HI.out
    have o7 : Only (fun _ => False) w6 w7 := Only.of_below HB7.out
    have h6 := R_only (R_only R26.out o7 (fun _ q => q.elim)) O8 (fun k q => by omega)
    have h7 := R_only (R_only R46.out o7 (fun _ q => q.elim)) O8 (fun k q => by omega)
    exact ⟨own_only (O6.out.trans (Only.of_below HB7.out)) O8 (by omega), ⟨_, _, rfl, Kd.R_lower h6 hI.2.2, Kd.R_lower h7 hI.2.2⟩, (X6.out.below HB7.out).only O8 (by omega) (by have := X6.out.lo; omega)⟩
set_option maxHeartbeats 2000000 in
set_option maxRecDepth 100000 in
theorem next_closed {w0 w : World} {rb : Nat} {t : List Int} (h : Rdx w0 w rb (28 :: t)) :
    Calls Tryd.prog 80 #[.pointer (some ⟨rb, 0, none⟩)] w (FrmP w0 w rb (next (28 :: t))) := by
  have hmf : ∀ (fn : Fn) (first cap : Array Value) (w : World), (Instr.makeFunc fn first cap).run Tryd.prog w = .ok (.func fn first cap) w := fun _ _ _ _ => rfl
  have hmm := @run_makeMap Tryd.prog
  have TB := Tbl.mk' w rb
  have i0 := TB.i0
  have i1 := TB.i1
  have i2 := TB.i2
  have i3 := TB.i3
  have i4 := TB.i4
  have i5 := TB.i5
  have i6 := TB.i6
  have i7 := TB.i7
  clear TB
  have hb2 : Below w.heap.size w ((w.alloc (.cells #[.int .i64 0, .int .i64 0, .slice none 0 0, .int .i64 0, .slice none 0 0, .int .i64 0] 58)).alloc (.map #[{ key := .int .u8 0, val := .func (.func 97) #[.pointer (some ⟨rb, 0, none⟩)] #[], born := 0 }, { key := .int .u8 1, val := .func (.func 98) #[.pointer (some ⟨rb, 0, none⟩)] #[], born := 1 }, { key := .int .u8 2, val := .func (.func 99) #[.pointer (some ⟨rb, 0, none⟩)] #[], born := 2 }, { key := .int .u8 6, val := .func (.func 100) #[.pointer (some ⟨rb, 0, none⟩)] #[], born := 3 }, { key := .int .u8 7, val := .func (.func 101) #[.pointer (some ⟨rb, 0, none⟩)] #[], born := 4 }, { key := .int .u8 8, val := .func (.func 102) #[.pointer (some ⟨rb, 0, none⟩)] #[], born := 5 }, { key := .int .u8 28, val := .func (.func 103) #[.pointer (some ⟨rb, 0, none⟩)] #[], born := 6 }, { key := .int .u8 30, val := .func (.func 104) #[.pointer (some ⟨rb, 0, none⟩)] #[], born := 7 }] 8)) := below_alloc (below_alloc (Below.refl _ _) _) _
  have HC := bytes_post (h.below hb2) 1 (by omega)
  rw [rbyt_one] at HC
  have HCA := Aside0.mk HC
  have HF := Aside0.mk (fun (w3 : World) ho => front (w3 := w3) h (.map #[{ key := .int .u8 0, val := .func (.func 97) #[.pointer (some ⟨rb, 0, none⟩)] #[], born := 0 }, { key := .int .u8 1, val := .func (.func 98) #[.pointer (some ⟨rb, 0, none⟩)] #[], born := 1 }, { key := .int .u8 2, val := .func (.func 99) #[.pointer (some ⟨rb, 0, none⟩)] #[], born := 2 }, { key := .int .u8 6, val := .func (.func 100) #[.pointer (some ⟨rb, 0, none⟩)] #[], born := 3 }, { key := .int .u8 7, val := .func (.func 101) #[.pointer (some ⟨rb, 0, none⟩)] #[], born := 4 }, { key := .int .u8 8, val := .func (.func 102) #[.pointer (some ⟨rb, 0, none⟩)] #[], born := 5 }, { key := .int .u8 28, val := .func (.func 103) #[.pointer (some ⟨rb, 0, none⟩)] #[], born := 6 }, { key := .int .u8 30, val := .func (.func 104) #[.pointer (some ⟨rb, 0, none⟩)] #[], born := 7 }] 8) ho)
  have HL := Aside0.mk (show rb < w.heap.size ∧ w0.heap.size ≤ rb from ⟨h.lt, h.lo⟩)
  generalize hres : next (28 :: t) = res
  clear HC hb2 h
  go_enter Tryd.func80, Tryd.ntmps80
  go_upto_region 2 with (go_at_call 105; refine HCA.out.mono ?_; rintro e1 w3 ⟨ho, v1, rfl, hR, hx⟩; obtain ⟨A1, c1, rfl, hl1, hC⟩ := Kd.R_reads hR; obtain ⟨ad, rfl, hc⟩ := Kd.at_int hC 0 (by omega) (by simp); simp only [rd, Int.toNat_zero, List.getD_cons_zero] at hc; rw [show ad.add 0 = ad from rfl] at hc; obtain ⟨hblk, hon, hmap, hsz⟩ := HF.out w3 ho; have hlook := look_run w3 (w.heap.size + 1) #[{ key := .int .u8 0, val := .func (.func 97) #[.pointer (some ⟨rb, 0, none⟩)] #[], born := 0 }, { key := .int .u8 1, val := .func (.func 98) #[.pointer (some ⟨rb, 0, none⟩)] #[], born := 1 }, { key := .int .u8 2, val := .func (.func 99) #[.pointer (some ⟨rb, 0, none⟩)] #[], born := 2 }, { key := .int .u8 6, val := .func (.func 100) #[.pointer (some ⟨rb, 0, none⟩)] #[], born := 3 }, { key := .int .u8 7, val := .func (.func 101) #[.pointer (some ⟨rb, 0, none⟩)] #[], born := 4 }, { key := .int .u8 8, val := .func (.func 102) #[.pointer (some ⟨rb, 0, none⟩)] #[], born := 5 }, { key := .int .u8 28, val := .func (.func 103) #[.pointer (some ⟨rb, 0, none⟩)] #[], born := 6 }, { key := .int .u8 30, val := .func (.func 104) #[.pointer (some ⟨rb, 0, none⟩)] #[], born := 7 }] 8 28 6 (.func (.func 103) #[.pointer (some ⟨rb, 0, none⟩)] #[]) hmap rfl; have X3 := Aside0.mk hx; have Z3 := Aside0.mk hblk; have O3 := Aside0.mk hon; have S3 := Aside0.mk hsz; clear ho hR hx hC hl1 hblk hon hmap hsz)
  have hneq : (binOp .neq 129 (.func (.func 103) #[.pointer (some ⟨rb, 0, none⟩)] #[]) .nilFunc).run Tryd.prog w3 = .ok (.bool true) w3 := neq_func w3 103 rb
  clear i0 i1 i2 i3 i4 i5 i6 i7 hmf hmm HCA HF
  obtain ⟨b0, hb0⟩ : ∃ b0, w.heap.size = b0 := ⟨_, rfl⟩
  have hs3 := S3.out
  have hb0' := hb0
  rw [hb0] at Z3 ⊢
  have HI := Aside0.mk (And.intro hb0 (show b0 < w3.heap.size ∧ w.heap.size ≤ w3.heap.size by omega))
  clear hb0 hb0' hs3 S3
  have HB : Calls Tryd.prog 103 #[.pointer (some ⟨rb, 0, none⟩)] w3 (FrmP w0 w3 rb (body 28 t)) := by
    have := closed_post X3.out
    exact this
  rcases hb : body 28 t with _ | ⟨⟨a0, a1, l2, a3, l4, a5⟩, x⟩
  · obtain rfl : none = res := by rw [← hres, next, hb]; rfl
    rw [hb] at HB
    clear hb hres
    go_wp2_with (first | (go_at_call 79; refine (need_ok _).mono ?_; rintro e1 w4 ⟨rfl, rfl⟩) | (go_at_call 103; refine HB.mono ?_; rintro e1 w5 ⟨ho, rfl⟩; have HO := Aside0.mk ho; clear ho))
    exact ⟨rfl, O3.out.trans HO.out, rfl⟩
  have hlen := body_len hb
  have HRES := Aside0.mk (show (if fr58 ⟨a0, a1, l2, a3, l4, a5⟩ then some ((⟨a0, a1, l2, a3, l4, a5⟩ : S58), x) else none) = res by rw [← hres, next, hb]; rfl)
  obtain ⟨b, hb2, hbi⟩ := FrP.right_f a0 a1 l2 a3 l4 a5 (by simp only [] at hlen; omega) 300 (by omega)
  have HRB := Aside0.mk (And.intro hb2 hbi)
  rw [hb] at HB
  clear hb hres hlen hb2 hbi
  go_upto_region 4 with (first | (go_at_call 79; refine (need_ok _).mono ?_; rintro e1 w4 ⟨rfl, rfl⟩) | (go_at_call 103; refine HB.mono ?_; rintro e1 w5 ⟨ho, ⟨v2, v4, rfl, hR2, hR4⟩, hx⟩; obtain ⟨A2, c2, e2⟩ := Kd.R_slice hR2; obtain ⟨A4, c4, e4⟩ := Kd.R_slice hR4; subst e2 e4; have U2 := Aside0.mk (Kd.R_reads' hR2).2; have U4 := Aside0.mk (Kd.R_reads' hR4).2; have R2 := Aside0.mk hR2; have R4 := Aside0.mk hR4; have HO := Aside0.mk ho; have X5 := Aside0.mk hx; clear ho hx hR2 hR4))
  obtain ⟨w6, hw6⟩ : ∃ w6, w5.alloc (.cells #[.int .i64 a0, .int .i64 a1, .slice A2 l2.length c2, .int .i64 a3, .slice A4 l4.length c4, .int .i64 a5] 58) = w6 := ⟨_, rfl⟩
  have hbel : Below w5.heap.size w5 w6 := by rw [← hw6]; exact below_alloc (Below.refl _ _) _
  have hB6 : Blk w6 w5.heap.size [.int .i64 a0, .int .i64 a1, .slice A2 l2.length c2, .int .i64 a3, .slice A4 l4.length c4, .int .i64 a5] := by rw [← hw6]; exact Blk.new w5 _
  have RC := frame_Right.calls 300 a0 a1 A2 c2 l2 a3 A4 c4 l4 a5 b w6 (Kd.C_below U2.out.2 hbel) U2.out.1 (Kd.C_below U4.out.2 hbel) U4.out.1 HRB.out.1
  rw [hw6]
  have hL := HL.out
  have hI := HI.out
  have h5 := HO.out.size
  have Z6 := Aside0.mk (((Z3.out.only HO.out (by omega)).only (Only.of_below hbel : Only (fun _ => False) w5 w6) (fun q => q)))
  have X6 := Aside0.mk (X5.out.below hbel)
  have R26 := Aside0.mk (R_only R2.out (Only.of_below hbel : Only (fun _ => False) w5 w6) (fun _ q => q.elim))
  have R46 := Aside0.mk (R_only R4.out (Only.of_below hbel : Only (fun _ => False) w5 w6) (fun _ q => q.elim))
  have O6 := Aside0.mk ((O3.out.trans HO.out).trans (Only.of_below hbel))
  obtain ⟨hbk, hhb⟩ : ∃ hbk, w5.heap.size = hbk := ⟨_, rfl⟩
  rw [hhb] at hB6 ⊢
  have HB6 := Aside0.mk hB6
  have HJ := Aside0.mk (show b0 < hbk by omega)
  obtain ⟨n2, hn2⟩ : ∃ n2, l2.length = n2 := ⟨_, rfl⟩
  obtain ⟨n4, hn4⟩ : ∃ n4, l4.length = n4 := ⟨_, rfl⟩
  rw [hn2, hn4] at RC HB6
  rw [hn2] at R26
  rw [hn4] at R46
  clear hbel hB6 hw6 hL hI h5 hhb hn2 hn4 U2 U4 R2 R4 HO X5 X3 Z3 O3 HB
  have q0 := HB6.out.cell 0 _ rfl
  have q1 := HB6.out.cell 1 _ rfl
  have q2 := HB6.out.cell 2 _ rfl
  have q3 := HB6.out.cell 3 _ rfl
  have q4 := HB6.out.cell 4 _ rfl
  have q5 := HB6.out.cell 5 _ rfl
  by_cases hfr : fr58 ⟨a0, a1, l2, a3, l4, a5⟩
  rotate_left
  · obtain rfl : none = res := by have := HRES.out; rw [if_neg hfr] at this; exact this
    obtain rfl : b = false := by
      cases b with
      | false => rfl
      | true => exact absurd (HRB.out.2.1 rfl) hfr
    clear hfr
    go_wp2_with (first | (go_at_call 42; refine RC.mono ?_; rintro e1 w7 ⟨rfl, hb7⟩; have HB7 := Aside0.mk hb7; clear hb7) | (go_at_call 79; refine (need_bad _).mono ?_; rintro e1 w4 ⟨rfl, rfl⟩))
    exact ⟨rfl, O6.out.trans (Only.of_below HB7.out), rfl⟩
  obtain rfl : some ((⟨a0, a1, l2, a3, l4, a5⟩ : S58), x) = res := by have := HRES.out; rw [if_pos hfr] at this; exact this
  obtain rfl : b = true := HRB.out.2.2 hfr
  clear hfr
  go_upto_region 5 with (first | (go_at_call 42; refine RC.mono ?_; rintro e1 w7 ⟨rfl, hb7⟩; have HB7 := Aside0.mk hb7; clear hb7) | (go_at_call 79; refine (need_ok _).mono ?_; rintro e1 w4 ⟨rfl, rfl⟩))
  clear RC q0 q1 q2 q3 q4 q5
  have o7 : Only (fun _ => False) w6 w7 := Only.of_below HB7.out
  have B7 := Aside0.mk (HB6.out.only o7 (fun q => q))
  have Z7 := Aside0.mk (Z6.out.only o7 (fun q => q))
  clear o7
  have q0 := B7.out.cell 0 _ rfl
  have q1 := B7.out.cell 1 _ rfl
  have q2 := B7.out.cell 2 _ rfl
  have q3 := B7.out.cell 3 _ rfl
  have q4 := B7.out.cell 4 _ rfl
  have q5 := B7.out.cell 5 _ rfl
  have z0 := Z7.out.cell 0 _ rfl
  have z1 := Z7.out.cell 1 _ rfl
  have z2 := Z7.out.cell 2 _ rfl
  have z3 := Z7.out.cell 3 _ rfl
  have z4 := Z7.out.cell 4 _ rfl
  have z5 := Z7.out.cell 5 _ rfl
  have y0 := Z7.out.frozen 0
  have y1 := Z7.out.frozen 1
  have y2 := Z7.out.frozen 2
  have y3 := Z7.out.frozen 3
  have y4 := Z7.out.frozen 4
  have y5 := Z7.out.frozen 5
  go_wp2
  change bodyPost _ _ _ _ _ (put6 w7 b0 (.int .i64 a0) (.int .i64 a1) (.slice A2 n2 c2) (.int .i64 a3) (.slice A4 n4 c4) (.int .i64 a5))
  have B8 := put6_blk Z7.out (.int .i64 a0) (.int .i64 a1) (.slice A2 n2 c2) (.int .i64 a3) (.slice A4 n4 c4) (.int .i64 a5)
  have O8 := put6_only w7 b0 (.int .i64 a0) (.int .i64 a1) (.slice A2 n2 c2) (.int .i64 a3) (.slice A4 n4 c4) (.int .i64 a5)
  clear q0 q1 q2 q3 q4 q5 z0 z1 z2 z3 z4 z5 y0 y1 y2 y3 y4 y5
  generalize put6 w7 b0 (.int .i64 a0) (.int .i64 a1) (.slice A2 n2 c2) (.int .i64 a3) (.slice A4 n4 c4) (.int .i64 a5) = w8 at *
  have x0 := B8.cell 0 _ rfl
  have x1 := B8.cell 1 _ rfl
  have x2 := B8.cell 2 _ rfl
  have x3 := B8.cell 3 _ rfl
  have x4 := B8.cell 4 _ rfl
  have x5 := B8.cell 5 _ rfl
  refine bodyPost_ret (v := .agg #[.int .i64 a0, .int .i64 a1, .slice A2 n2 c2, .int .i64 a3, .slice A4 n4 c4, .int .i64 a5]) ?_ rfl ?_
  · simp [results, Tryd.results80, go_sem, x0, x1, x2, x3, x4, x5]
  · clear x0 x1 x2 x3 x4 x5 B8
    have hL := HL.out
    have hI := HI.out
    have o7 : Only (fun _ => False) w6 w7 := Only.of_below HB7.out
    have h6 := R_only (R_only R26.out o7 (fun _ q => q.elim)) O8 (fun k q => by omega)
    have h7 := R_only (R_only R46.out o7 (fun _ q => q.elim)) O8 (fun k q => by omega)
    exact ⟨own_only (O6.out.trans (Only.of_below HB7.out)) O8 (by omega), ⟨_, _, rfl, Kd.R_lower h6 hI.2.2, Kd.R_lower h7 hI.2.2⟩, (X6.out.below HB7.out).only O8 (by omega) (by have := X6.out.lo; omega)⟩
set_option maxHeartbeats 2000000 in
set_option maxRecDepth 100000 in
theorem next_done {w0 w : World} {rb : Nat} {t : List Int} (h : Rdx w0 w rb (30 :: t)) :
    Calls Tryd.prog 80 #[.pointer (some ⟨rb, 0, none⟩)] w (FrmP w0 w rb (next (30 :: t))) := by
  have hmf : ∀ (fn : Fn) (first cap : Array Value) (w : World), (Instr.makeFunc fn first cap).run Tryd.prog w = .ok (.func fn first cap) w := fun _ _ _ _ => rfl
  have hmm := @run_makeMap Tryd.prog
  have TB := Tbl.mk' w rb
  have i0 := TB.i0
  have i1 := TB.i1
  have i2 := TB.i2
  have i3 := TB.i3
  have i4 := TB.i4
  have i5 := TB.i5
  have i6 := TB.i6
  have i7 := TB.i7
  clear TB
  have hb2 : Below w.heap.size w ((w.alloc (.cells #[.int .i64 0, .int .i64 0, .slice none 0 0, .int .i64 0, .slice none 0 0, .int .i64 0] 58)).alloc (.map #[{ key := .int .u8 0, val := .func (.func 97) #[.pointer (some ⟨rb, 0, none⟩)] #[], born := 0 }, { key := .int .u8 1, val := .func (.func 98) #[.pointer (some ⟨rb, 0, none⟩)] #[], born := 1 }, { key := .int .u8 2, val := .func (.func 99) #[.pointer (some ⟨rb, 0, none⟩)] #[], born := 2 }, { key := .int .u8 6, val := .func (.func 100) #[.pointer (some ⟨rb, 0, none⟩)] #[], born := 3 }, { key := .int .u8 7, val := .func (.func 101) #[.pointer (some ⟨rb, 0, none⟩)] #[], born := 4 }, { key := .int .u8 8, val := .func (.func 102) #[.pointer (some ⟨rb, 0, none⟩)] #[], born := 5 }, { key := .int .u8 28, val := .func (.func 103) #[.pointer (some ⟨rb, 0, none⟩)] #[], born := 6 }, { key := .int .u8 30, val := .func (.func 104) #[.pointer (some ⟨rb, 0, none⟩)] #[], born := 7 }] 8)) := below_alloc (below_alloc (Below.refl _ _) _) _
  have HC := bytes_post (h.below hb2) 1 (by omega)
  rw [rbyt_one] at HC
  have HCA := Aside0.mk HC
  have HF := Aside0.mk (fun (w3 : World) ho => front (w3 := w3) h (.map #[{ key := .int .u8 0, val := .func (.func 97) #[.pointer (some ⟨rb, 0, none⟩)] #[], born := 0 }, { key := .int .u8 1, val := .func (.func 98) #[.pointer (some ⟨rb, 0, none⟩)] #[], born := 1 }, { key := .int .u8 2, val := .func (.func 99) #[.pointer (some ⟨rb, 0, none⟩)] #[], born := 2 }, { key := .int .u8 6, val := .func (.func 100) #[.pointer (some ⟨rb, 0, none⟩)] #[], born := 3 }, { key := .int .u8 7, val := .func (.func 101) #[.pointer (some ⟨rb, 0, none⟩)] #[], born := 4 }, { key := .int .u8 8, val := .func (.func 102) #[.pointer (some ⟨rb, 0, none⟩)] #[], born := 5 }, { key := .int .u8 28, val := .func (.func 103) #[.pointer (some ⟨rb, 0, none⟩)] #[], born := 6 }, { key := .int .u8 30, val := .func (.func 104) #[.pointer (some ⟨rb, 0, none⟩)] #[], born := 7 }] 8) ho)
  have HL := Aside0.mk (show rb < w.heap.size ∧ w0.heap.size ≤ rb from ⟨h.lt, h.lo⟩)
  generalize hres : next (30 :: t) = res
  clear HC hb2 h
  go_enter Tryd.func80, Tryd.ntmps80
  go_upto_region 2 with (go_at_call 105; refine HCA.out.mono ?_; rintro e1 w3 ⟨ho, v1, rfl, hR, hx⟩; obtain ⟨A1, c1, rfl, hl1, hC⟩ := Kd.R_reads hR; obtain ⟨ad, rfl, hc⟩ := Kd.at_int hC 0 (by omega) (by simp); simp only [rd, Int.toNat_zero, List.getD_cons_zero] at hc; rw [show ad.add 0 = ad from rfl] at hc; obtain ⟨hblk, hon, hmap, hsz⟩ := HF.out w3 ho; have hlook := look_run w3 (w.heap.size + 1) #[{ key := .int .u8 0, val := .func (.func 97) #[.pointer (some ⟨rb, 0, none⟩)] #[], born := 0 }, { key := .int .u8 1, val := .func (.func 98) #[.pointer (some ⟨rb, 0, none⟩)] #[], born := 1 }, { key := .int .u8 2, val := .func (.func 99) #[.pointer (some ⟨rb, 0, none⟩)] #[], born := 2 }, { key := .int .u8 6, val := .func (.func 100) #[.pointer (some ⟨rb, 0, none⟩)] #[], born := 3 }, { key := .int .u8 7, val := .func (.func 101) #[.pointer (some ⟨rb, 0, none⟩)] #[], born := 4 }, { key := .int .u8 8, val := .func (.func 102) #[.pointer (some ⟨rb, 0, none⟩)] #[], born := 5 }, { key := .int .u8 28, val := .func (.func 103) #[.pointer (some ⟨rb, 0, none⟩)] #[], born := 6 }, { key := .int .u8 30, val := .func (.func 104) #[.pointer (some ⟨rb, 0, none⟩)] #[], born := 7 }] 8 30 7 (.func (.func 104) #[.pointer (some ⟨rb, 0, none⟩)] #[]) hmap rfl; have X3 := Aside0.mk hx; have Z3 := Aside0.mk hblk; have O3 := Aside0.mk hon; have S3 := Aside0.mk hsz; clear ho hR hx hC hl1 hblk hon hmap hsz)
  have hneq : (binOp .neq 129 (.func (.func 104) #[.pointer (some ⟨rb, 0, none⟩)] #[]) .nilFunc).run Tryd.prog w3 = .ok (.bool true) w3 := neq_func w3 104 rb
  clear i0 i1 i2 i3 i4 i5 i6 i7 hmf hmm HCA HF
  obtain ⟨b0, hb0⟩ : ∃ b0, w.heap.size = b0 := ⟨_, rfl⟩
  have hs3 := S3.out
  have hb0' := hb0
  rw [hb0] at Z3 ⊢
  have HI := Aside0.mk (And.intro hb0 (show b0 < w3.heap.size ∧ w.heap.size ≤ w3.heap.size by omega))
  clear hb0 hb0' hs3 S3
  have HB : Calls Tryd.prog 104 #[.pointer (some ⟨rb, 0, none⟩)] w3 (FrmP w0 w3 rb (body 30 t)) := by
    have := done_post X3.out
    exact this
  rcases hb : body 30 t with _ | ⟨⟨a0, a1, l2, a3, l4, a5⟩, x⟩
  · obtain rfl : none = res := by rw [← hres, next, hb]; rfl
    rw [hb] at HB
    clear hb hres
    go_wp2_with (first | (go_at_call 79; refine (need_ok _).mono ?_; rintro e1 w4 ⟨rfl, rfl⟩) | (go_at_call 104; refine HB.mono ?_; rintro e1 w5 ⟨ho, rfl⟩; have HO := Aside0.mk ho; clear ho))
    exact ⟨rfl, O3.out.trans HO.out, rfl⟩
  have hlen := body_len hb
  have HRES := Aside0.mk (show (if fr58 ⟨a0, a1, l2, a3, l4, a5⟩ then some ((⟨a0, a1, l2, a3, l4, a5⟩ : S58), x) else none) = res by rw [← hres, next, hb]; rfl)
  obtain ⟨b, hb2, hbi⟩ := FrP.right_f a0 a1 l2 a3 l4 a5 (by simp only [] at hlen; omega) 300 (by omega)
  have HRB := Aside0.mk (And.intro hb2 hbi)
  rw [hb] at HB
  clear hb hres hlen hb2 hbi
  go_upto_region 4 with (first | (go_at_call 79; refine (need_ok _).mono ?_; rintro e1 w4 ⟨rfl, rfl⟩) | (go_at_call 104; refine HB.mono ?_; rintro e1 w5 ⟨ho, ⟨v2, v4, rfl, hR2, hR4⟩, hx⟩; obtain ⟨A2, c2, e2⟩ := Kd.R_slice hR2; obtain ⟨A4, c4, e4⟩ := Kd.R_slice hR4; subst e2 e4; have U2 := Aside0.mk (Kd.R_reads' hR2).2; have U4 := Aside0.mk (Kd.R_reads' hR4).2; have R2 := Aside0.mk hR2; have R4 := Aside0.mk hR4; have HO := Aside0.mk ho; have X5 := Aside0.mk hx; clear ho hx hR2 hR4))
  obtain ⟨w6, hw6⟩ : ∃ w6, w5.alloc (.cells #[.int .i64 a0, .int .i64 a1, .slice A2 l2.length c2, .int .i64 a3, .slice A4 l4.length c4, .int .i64 a5] 58) = w6 := ⟨_, rfl⟩
  have hbel : Below w5.heap.size w5 w6 := by rw [← hw6]; exact below_alloc (Below.refl _ _) _
  have hB6 : Blk w6 w5.heap.size [.int .i64 a0, .int .i64 a1, .slice A2 l2.length c2, .int .i64 a3, .slice A4 l4.length c4, .int .i64 a5] := by rw [← hw6]; exact Blk.new w5 _
  have RC := frame_Right.calls 300 a0 a1 A2 c2 l2 a3 A4 c4 l4 a5 b w6 (Kd.C_below U2.out.2 hbel) U2.out.1 (Kd.C_below U4.out.2 hbel) U4.out.1 HRB.out.1
  rw [hw6]
  have hL := HL.out
  have hI := HI.out
  have h5 := HO.out.size
  have Z6 := Aside0.mk (((Z3.out.only HO.out (by omega)).only (Only.of_below hbel : Only (fun _ => False) w5 w6) (fun q => q)))
  have X6 := Aside0.mk (X5.out.below hbel)
  have R26 := Aside0.mk (R_only R2.out (Only.of_below hbel : Only (fun _ => False) w5 w6) (fun _ q => q.elim))
  have R46 := Aside0.mk (R_only R4.out (Only.of_below hbel : Only (fun _ => False) w5 w6) (fun _ q => q.elim))
  have O6 := Aside0.mk ((O3.out.trans HO.out).trans (Only.of_below hbel))
  obtain ⟨hbk, hhb⟩ : ∃ hbk, w5.heap.size = hbk := ⟨_, rfl⟩
  rw [hhb] at hB6 ⊢
  have HB6 := Aside0.mk hB6
  have HJ := Aside0.mk (show b0 < hbk by omega)
  obtain ⟨n2, hn2⟩ : ∃ n2, l2.length = n2 := ⟨_, rfl⟩
  obtain ⟨n4, hn4⟩ : ∃ n4, l4.length = n4 := ⟨_, rfl⟩
  rw [hn2, hn4] at RC HB6
  rw [hn2] at R26
  rw [hn4] at R46
  clear hbel hB6 hw6 hL hI h5 hhb hn2 hn4 U2 U4 R2 R4 HO X5 X3 Z3 O3 HB
  have q0 := HB6.out.cell 0 _ rfl
  have q1 := HB6.out.cell 1 _ rfl
  have q2 := HB6.out.cell 2 _ rfl
  have q3 := HB6.out.cell 3 _ rfl
  have q4 := HB6.out.cell 4 _ rfl
  have q5 := HB6.out.cell 5 _ rfl
  by_cases hfr : fr58 ⟨a0, a1, l2, a3, l4, a5⟩
  rotate_left
  · obtain rfl : none = res := by have := HRES.out; rw [if_neg hfr] at this; exact this
    obtain rfl : b = false := by
      cases b with
      | false => rfl
      | true => exact absurd (HRB.out.2.1 rfl) hfr
    clear hfr
    go_wp2_with (first | (go_at_call 42; refine RC.mono ?_; rintro e1 w7 ⟨rfl, hb7⟩; have HB7 := Aside0.mk hb7; clear hb7) | (go_at_call 79; refine (need_bad _).mono ?_; rintro e1 w4 ⟨rfl, rfl⟩))
    exact ⟨rfl, O6.out.trans (Only.of_below HB7.out), rfl⟩
  obtain rfl : some ((⟨a0, a1, l2, a3, l4, a5⟩ : S58), x) = res := by have := HRES.out; rw [if_pos hfr] at this; exact this
  obtain rfl : b = true := HRB.out.2.2 hfr
  clear hfr
  go_upto_region 5 with (first | (go_at_call 42; refine RC.mono ?_; rintro e1 w7 ⟨rfl, hb7⟩; have HB7 := Aside0.mk hb7; clear hb7) | (go_at_call 79; refine (need_ok _).mono ?_; rintro e1 w4 ⟨rfl, rfl⟩))
  clear RC q0 q1 q2 q3 q4 q5
  have o7 : Only (fun _ => False) w6 w7 := Only.of_below HB7.out
  have B7 := Aside0.mk (HB6.out.only o7 (fun q => q))
  have Z7 := Aside0.mk (Z6.out.only o7 (fun q => q))
  clear o7
  have q0 := B7.out.cell 0 _ rfl
  have q1 := B7.out.cell 1 _ rfl
  have q2 := B7.out.cell 2 _ rfl
  have q3 := B7.out.cell 3 _ rfl
  have q4 := B7.out.cell 4 _ rfl
  have q5 := B7.out.cell 5 _ rfl
  have z0 := Z7.out.cell 0 _ rfl
  have z1 := Z7.out.cell 1 _ rfl
  have z2 := Z7.out.cell 2 _ rfl
  have z3 := Z7.out.cell 3 _ rfl
  have z4 := Z7.out.cell 4 _ rfl
  have z5 := Z7.out.cell 5 _ rfl
  have y0 := Z7.out.frozen 0
  have y1 := Z7.out.frozen 1
  have y2 := Z7.out.frozen 2
  have y3 := Z7.out.frozen 3
  have y4 := Z7.out.frozen 4
  have y5 := Z7.out.frozen 5
  go_wp2
  change bodyPost _ _ _ _ _ (put6 w7 b0 (.int .i64 a0) (.int .i64 a1) (.slice A2 n2 c2) (.int .i64 a3) (.slice A4 n4 c4) (.int .i64 a5))
  have B8 := put6_blk Z7.out (.int .i64 a0) (.int .i64 a1) (.slice A2 n2 c2) (.int .i64 a3) (.slice A4 n4 c4) (.int .i64 a5)
  have O8 := put6_only w7 b0 (.int .i64 a0) (.int .i64 a1) (.slice A2 n2 c2) (.int .i64 a3) (.slice A4 n4 c4) (.int .i64 a5)
  clear q0 q1 q2 q3 q4 q5 z0 z1 z2 z3 z4 z5 y0 y1 y2 y3 y4 y5
  generalize put6 w7 b0 (.int .i64 a0) (.int .i64 a1) (.slice A2 n2 c2) (.int .i64 a3) (.slice A4 n4 c4) (.int .i64 a5) = w8 at *
  have x0 := B8.cell 0 _ rfl
  have x1 := B8.cell 1 _ rfl
  have x2 := B8.cell 2 _ rfl
  have x3 := B8.cell 3 _ rfl
  have x4 := B8.cell 4 _ rfl
  have x5 := B8.cell 5 _ rfl
  refine bodyPost_ret (v := .agg #[.int .i64 a0, .int .i64 a1, .slice A2 n2 c2, .int .i64 a3, .slice A4 n4 c4, .int .i64 a5]) ?_ rfl ?_
  · simp [results, Tryd.results80, go_sem, x0, x1, x2, x3, x4, x5]
  · clear x0 x1 x2 x3 x4 x5 B8
    have hL := HL.out
    have hI := HI.out
    have o7 : Only (fun _ => False) w6 w7 := Only.of_below HB7.out
    have h6 := R_only (R_only R26.out o7 (fun _ q => q.elim)) O8 (fun k q => by omega)
    have h7 := R_only (R_only R46.out o7 (fun _ q => q.elim)) O8 (fun k q => by omega)
    exact ⟨own_only (O6.out.trans (Only.of_below HB7.out)) O8 (by omega), ⟨_, _, rfl, Kd.R_lower h6 hI.2.2, Kd.R_lower h7 hI.2.2⟩, (X6.out.below HB7.out).only O8 (by omega) (by have := X6.out.lo; omega)⟩
set_option maxHeartbeats 2000000 in
set_option maxRecDepth 100000 in
theorem next_else {w0 w : World} {rb : Nat} {k : Int} {t : List Int} (h : Rdx w0 w rb (k :: t)) (hk : k ≠ 0 ∧ k ≠ 1 ∧ k ≠ 2 ∧ k ≠ 6 ∧ k ≠ 7 ∧ k ≠ 8 ∧ k ≠ 28 ∧ k ≠ 30) :
    Calls Tryd.prog 80 #[.pointer (some ⟨rb, 0, none⟩)] w (FrmP w0 w rb (next (k :: t))) := by
  have hmf : ∀ (fn : Fn) (first cap : Array Value) (w : World), (Instr.makeFunc fn first cap).run Tryd.prog w = .ok (.func fn first cap) w := fun _ _ _ _ => rfl
  have hmm := @run_makeMap Tryd.prog
  have TB := Tbl.mk' w rb
  have i0 := TB.i0
  have i1 := TB.i1
  have i2 := TB.i2
  have i3 := TB.i3
  have i4 := TB.i4
  have i5 := TB.i5
  have i6 := TB.i6
  have i7 := TB.i7
  clear TB
  have hb2 : Below w.heap.size w ((w.alloc (.cells #[.int .i64 0, .int .i64 0, .slice none 0 0, .int .i64 0, .slice none 0 0, .int .i64 0] 58)).alloc (.map #[{ key := .int .u8 0, val := .func (.func 97) #[.pointer (some ⟨rb, 0, none⟩)] #[], born := 0 }, { key := .int .u8 1, val := .func (.func 98) #[.pointer (some ⟨rb, 0, none⟩)] #[], born := 1 }, { key := .int .u8 2, val := .func (.func 99) #[.pointer (some ⟨rb, 0, none⟩)] #[], born := 2 }, { key := .int .u8 6, val := .func (.func 100) #[.pointer (some ⟨rb, 0, none⟩)] #[], born := 3 }, { key := .int .u8 7, val := .func (.func 101) #[.pointer (some ⟨rb, 0, none⟩)] #[], born := 4 }, { key := .int .u8 8, val := .func (.func 102) #[.pointer (some ⟨rb, 0, none⟩)] #[], born := 5 }, { key := .int .u8 28, val := .func (.func 103) #[.pointer (some ⟨rb, 0, none⟩)] #[], born := 6 }, { key := .int .u8 30, val := .func (.func 104) #[.pointer (some ⟨rb, 0, none⟩)] #[], born := 7 }] 8)) := below_alloc (below_alloc (Below.refl _ _) _) _
  have HC := bytes_post (h.below hb2) 1 (by omega)
  rw [rbyt_one] at HC
  have HCA := Aside0.mk HC
  have HF := Aside0.mk (fun (w3 : World) ho => front (w3 := w3) h (.map #[{ key := .int .u8 0, val := .func (.func 97) #[.pointer (some ⟨rb, 0, none⟩)] #[], born := 0 }, { key := .int .u8 1, val := .func (.func 98) #[.pointer (some ⟨rb, 0, none⟩)] #[], born := 1 }, { key := .int .u8 2, val := .func (.func 99) #[.pointer (some ⟨rb, 0, none⟩)] #[], born := 2 }, { key := .int .u8 6, val := .func (.func 100) #[.pointer (some ⟨rb, 0, none⟩)] #[], born := 3 }, { key := .int .u8 7, val := .func (.func 101) #[.pointer (some ⟨rb, 0, none⟩)] #[], born := 4 }, { key := .int .u8 8, val := .func (.func 102) #[.pointer (some ⟨rb, 0, none⟩)] #[], born := 5 }, { key := .int .u8 28, val := .func (.func 103) #[.pointer (some ⟨rb, 0, none⟩)] #[], born := 6 }, { key := .int .u8 30, val := .func (.func 104) #[.pointer (some ⟨rb, 0, none⟩)] #[], born := 7 }] 8) ho)
  have HL := Aside0.mk (show rb < w.heap.size ∧ w0.heap.size ≤ rb from ⟨h.lt, h.lo⟩)
  generalize hres : next (k :: t) = res
  clear HC hb2 h
  have hnone : Instr.findNow (.int .u8) (.int .u8 k) [{ key := .int .u8 0, val := .func (.func 97) #[.pointer (some ⟨rb, 0, none⟩)] #[], born := 0 }, { key := .int .u8 1, val := .func (.func 98) #[.pointer (some ⟨rb, 0, none⟩)] #[], born := 1 }, { key := .int .u8 2, val := .func (.func 99) #[.pointer (some ⟨rb, 0, none⟩)] #[], born := 2 }, { key := .int .u8 6, val := .func (.func 100) #[.pointer (some ⟨rb, 0, none⟩)] #[], born := 3 }, { key := .int .u8 7, val := .func (.func 101) #[.pointer (some ⟨rb, 0, none⟩)] #[], born := 4 }, { key := .int .u8 8, val := .func (.func 102) #[.pointer (some ⟨rb, 0, none⟩)] #[], born := 5 }, { key := .int .u8 28, val := .func (.func 103) #[.pointer (some ⟨rb, 0, none⟩)] #[], born := 6 }, { key := .int .u8 30, val := .func (.func 104) #[.pointer (some ⟨rb, 0, none⟩)] #[], born := 7 }] 0 = some none := by
    obtain ⟨h0, h1, h2, h6, h7, h8, h28, h30⟩ := hk
    have e0 : (k == 0) = false := by simpa using h0
    have e1 : (k == 1) = false := by simpa using h1
    have e2 : (k == 2) = false := by simpa using h2
    have e6 : (k == 6) = false := by simpa using h6
    have e7 : (k == 7) = false := by simpa using h7
    have e8 : (k == 8) = false := by simpa using h8
    have e28 : (k == 28) = false := by simpa using h28
    have e30 : (k == 30) = false := by simpa using h30
    simp only [Instr.findNow, Instr.sameNow, e0, e1, e2, e6, e7, e8, e28, e30, if_true]
  obtain rfl : none = res := by rw [← hres]; unfold next body; simp [hk]
  have HNN := Aside0.mk hnone
  clear hnone hk hres
  go_enter Tryd.func80, Tryd.ntmps80
  go_upto_region 2 with (go_at_call 105; refine HCA.out.mono ?_; rintro e1 w3 ⟨ho, v1, rfl, hR, hx⟩; obtain ⟨A1, c1, rfl, hl1, hC⟩ := Kd.R_reads hR; obtain ⟨ad, rfl, hc⟩ := Kd.at_int hC 0 (by omega) (by simp); simp only [rd, Int.toNat_zero, List.getD_cons_zero] at hc; rw [show ad.add 0 = ad from rfl] at hc; obtain ⟨hblk, hon, hmap, hsz⟩ := HF.out w3 ho; have hlook := look_none w3 (w.heap.size + 1) #[{ key := .int .u8 0, val := .func (.func 97) #[.pointer (some ⟨rb, 0, none⟩)] #[], born := 0 }, { key := .int .u8 1, val := .func (.func 98) #[.pointer (some ⟨rb, 0, none⟩)] #[], born := 1 }, { key := .int .u8 2, val := .func (.func 99) #[.pointer (some ⟨rb, 0, none⟩)] #[], born := 2 }, { key := .int .u8 6, val := .func (.func 100) #[.pointer (some ⟨rb, 0, none⟩)] #[], born := 3 }, { key := .int .u8 7, val := .func (.func 101) #[.pointer (some ⟨rb, 0, none⟩)] #[], born := 4 }, { key := .int .u8 8, val := .func (.func 102) #[.pointer (some ⟨rb, 0, none⟩)] #[], born := 5 }, { key := .int .u8 28, val := .func (.func 103) #[.pointer (some ⟨rb, 0, none⟩)] #[], born := 6 }, { key := .int .u8 30, val := .func (.func 104) #[.pointer (some ⟨rb, 0, none⟩)] #[], born := 7 }] 8 k hmap HNN.out; have X3 := Aside0.mk hx; have Z3 := Aside0.mk hblk; have O3 := Aside0.mk hon; have S3 := Aside0.mk hsz; clear ho hR hx hC hl1 hblk hon hmap hsz)
  have hneq : (binOp .neq 129 .nilFunc .nilFunc).run Tryd.prog w3 = .ok (.bool false) w3 := neq_nil w3
  clear i0 i1 i2 i3 i4 i5 i6 i7 hmf hmm HCA HF
  go_wp2_with (go_at_call 79; refine (need_bad _).mono ?_; rintro e1 w4 ⟨rfl, rfl⟩)
  exact ⟨rfl, O3.out, rfl⟩
end Go.Proofs.YtbcleckapamicaaDoor.Fd
