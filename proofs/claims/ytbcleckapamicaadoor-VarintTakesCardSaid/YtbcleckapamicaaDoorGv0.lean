/- What is given to the print over the seat with tables: slices.Clone of bytes, math/bits.TrailingZeros at the four sizes; the premise on the table. -/
import Derived.Test.YtbcleckapamicaaDoorProg
import Derived.Test.YtbcleckapamicaaDoorWMore
import Derived.WalkKit
import Derived.WalkSpells
import Derived.Lib.SliceRun
namespace Go.Proofs.YtbcleckapamicaaDoor.Gv
open Go.RowKit Go.Proofs.YtbcleckapamicaaDoorW.PrintWords Go.Proofs.YtbcleckapamicaaDoorW.PrintLast Go.Proofs.YtbcleckapamicaaDoorW.PrintMore
set_option linter.unusedVariables false
set_option linter.unusedSimpArgs false

def tab64 : List Int := [0, 1, 56, 2, 57, 49, 28, 3, 61, 58, 42, 50, 38, 29, 17, 4, 62, 47, 59, 36, 45, 43, 51, 22, 53, 39, 33, 30, 24, 18, 12, 5, 63, 55, 48, 27, 60, 41, 37, 16, 46, 35, 44, 21, 52, 32, 23, 11, 54, 26, 40, 15, 34, 20, 31, 10, 25, 14, 19, 9, 13, 8, 7, 6]
/-- The library's table stands where it was laid. -/
structure TB (w : World) : Prop where
  out : ∀ i, i < 64 → w.cell? ⟨1, i, none⟩ = some (.int .u8 (tab64.getD i 0))
theorem TB.below {w W : World} (h : TB w) (hb : Below w.heap.size w W) : TB W := ⟨fun i hi => pw_cell_below hb (h.out i hi)⟩
theorem TB.alloc {w : World} (h : TB w) (o : Obj) : TB (w.alloc o) := h.below (below_alloc (Below.refl _ _) o)
theorem TB.drew {w : World} (h : TB w) : TB w.drew := h.below (below_drew (Below.refl _ _))
theorem TB.drewN {w : World} (h : TB w) (n : Nat) : TB (w.drewN n) := h.below (pw_below_drewN (Below.refl _ _) n)

def bits_TrailingZeros.f (a0 : Int) : Option Int := if a0 = 1 then some 0 else if a0 = 2 then some 1 else if a0 = 4 then some 2 else if a0 = 8 then some 3 else none

theorem tz64 (a0 r : Int) (w : World) (ht : TB w) (h : bits_TrailingZeros.f a0 = some r) : Calls Tryd.prog 86 #[.int .u64 a0] w fun e w' => e = .returned (.int .i64 r) ∧ Drawn0 w w' := by
  have h0 := ht.out 0 (by decide)
  have h1 := ht.out 1 (by decide)
  have h3 := ht.out 3 (by decide)
  have h7 := ht.out 7 (by decide)
  simp only [tab64, List.getD_cons_zero, List.getD_cons_succ] at h0 h1 h3 h7
  clear ht
  unfold bits_TrailingZeros.f at h
  split at h
  · rename_i e; subst e
    obtain rfl := Option.some.inj h
    clear h h1 h3 h7
    have e1 : bits BinOp.and IntKind.u64 1 (IntKind.u64.wrap (-1)) = 1 := by decide +kernel
    have e2 : IntKind.u64.wrap 285870213051353865 = 285870213051353865 := by decide +kernel
    go_enter Tryd.func86, Tryd.ntmps86
    go_wp2
    go_ret
    exact ⟨rfl, Drawn0.refl _⟩
  split at h
  · rename_i e; subst e
    obtain rfl := Option.some.inj h
    clear h h0 h3 h7
    have e1 : bits BinOp.and IntKind.u64 2 (IntKind.u64.wrap (-2)) = 2 := by decide +kernel
    have e2 : IntKind.u64.wrap 571740426102707730 = 571740426102707730 := by decide +kernel
    go_enter Tryd.func86, Tryd.ntmps86
    go_wp2
    go_ret
    exact ⟨rfl, Drawn0.refl _⟩
  split at h
  · rename_i e; subst e
    obtain rfl := Option.some.inj h
    clear h h0 h1 h7
    have e1 : bits BinOp.and IntKind.u64 4 (IntKind.u64.wrap (-4)) = 4 := by decide +kernel
    have e2 : IntKind.u64.wrap 1143480852205415460 = 1143480852205415460 := by decide +kernel
    go_enter Tryd.func86, Tryd.ntmps86
    go_wp2
    go_ret
    exact ⟨rfl, Drawn0.refl _⟩
  split at h
  · rename_i e; subst e
    obtain rfl := Option.some.inj h
    clear h h0 h1 h3
    have e1 : bits BinOp.and IntKind.u64 8 (IntKind.u64.wrap (-8)) = 8 := by decide +kernel
    have e2 : IntKind.u64.wrap 2286961704410830920 = 2286961704410830920 := by decide +kernel
    go_enter Tryd.func86, Tryd.ntmps86
    go_wp2
    go_ret
    exact ⟨rfl, Drawn0.refl _⟩
  · cases h

theorem bits_TrailingZeros.calls (a0 r : Int) (w : World) (ht : TB w) (h : bits_TrailingZeros.f a0 = some r) : Calls Tryd.prog 58 #[.int .u64 a0] w fun e w' => e = .returned (.int .i64 r) ∧ Drawn0 w w' := by
  have H := tz64 a0 r w ht h
  clear ht h
  go_enter Tryd.func58, Tryd.ntmps58
  go_wp2_with (go_at_call 86; refine H.mono ?_; rintro e w' ⟨rfl, ⟨n, rfl⟩⟩)
  go_ret
  exact ⟨rfl, ⟨⟨_, rfl⟩⟩⟩

theorem info5 : (Tryd.prog.info? 5).map (fun i => (i.zero, i.size, i.bytes)) = some (some (.int .u8 0), 1, 1) := by kernel_rfl
def slices_Clone_byte_byte.f (l0 : List Int) : Option (List Int) := if l0.length ≤ 140737488355328 then some l0 else none
set_option maxHeartbeats 1000000 in
theorem slices_Clone_byte_byte.calls (A0 : Option Addr) (c0 : Nat) (l0 : List Int) (r : List Int) (w : World) (hr0 : Kd.C (Kd.int .u8) w A0 l0.length l0) (hc0 : l0.length ≤ c0) (h : slices_Clone_byte_byte.f l0 = some r) :
    Calls Tryd.prog 57 #[.slice A0 l0.length c0] w fun e w' => ∃ v0_ : Value, e = .returned (v0_) ∧ Kd.R (Kd.int .u8) 5 w' w.heap.size (fun _ => True) v0_ r ∧ Below w.heap.size w w' := by
  unfold slices_Clone_byte_byte.f at h
  by_cases hl : l0.length ≤ 140737488355328
  · rw [if_pos hl] at h
    obtain rfl := Option.some.inj h
    clear h
    have q : ∀ (w : World) (a : Option Addr) (n c n' c' : Nat), (binOp .eql 22 (.slice a n c) (.slice none n' c')).run Tryd.prog w = .ok (.bool a.isNone) w := fun w a n c n' c' => Lib.run_eql_slice_nil w _ _ a n c n' c' Tryd.underlying22
    have HR0 := Aside0.mk hr0
    clear hr0
    have HB := Aside0.mk (Below.refl w.heap.size w)
    rcases A0 with _ | ad
    · have e0 : l0 = [] := by
        rcases Nat.eq_zero_or_pos l0.length with h0 | h0
        · exact List.eq_nil_of_length_eq_zero h0
        · obtain ⟨ad, h1, _⟩ := HR0.out.2.2 h0
          cases h1
      subst e0
      clear HR0
      go_enter Tryd.func57, Tryd.ntmps57
      go_wp2
      go_ret
      exact ⟨_, rfl, Kd.R_nil _ _ _ _ _, HB.out⟩
    · have HO := Aside0.mk (Kd.R_of_own (h1 := fun _ => rfl) (enc := Value.int .u8) (xs := []) (ok := fun _ => True) (own_lit w w.heap.size 5 .u8 [] (Nat.le_refl _) (by simp)) (fun _ _ => trivial))
      go_enter Tryd.func57, Tryd.ntmps57
      go_wp2_with ((with_reducible refine gate_builtin (b := .append) (xs := #[.tmp 5, .tmp 6]) rfl ?_); at_builtin; refine Kd.R_append_rows (Kd.int .u8) (w0 := w) w.heap.size rfl (.tmp 5) (.tmp 6) 22 5 (.int .u8 0) 1 rfl Tryd.underlying22 info5 rfl (by decide) (by omega) _ [] l0 _ _ _ (fun _ => True) (fun _ => False) rfl rfl ?aO ?aR (fun _ _ h => h) (fun _ h => h.elim) ?aF ?aB ?aS ?aL ?_; (case aO => exact HO.out); (case aR => exact Kd.C_alloc HR0.out _); (case aB => exact below_alloc HB.out _); (case aF => exact (fun _ _ => trivial)); (case aS => simp); (case aL => simpa using hl); intro v w5 ho hb hg hat)
      go_ret
      exact ⟨_, rfl, by simpa using ho, hb⟩
  · rw [if_neg hl] at h; cases h
end Go.Proofs.YtbcleckapamicaaDoor.Gv
