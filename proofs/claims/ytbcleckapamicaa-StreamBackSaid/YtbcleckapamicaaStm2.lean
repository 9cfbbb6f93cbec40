/- Stream.Put, walked. -/
import Derived.Test.YtbcleckapamicaaStm1
import Derived.WalkKit
import Derived.WalkSpells
import Derived.Carry
namespace Go.Proofs.Ytbcleckapamicaa.Stm
open Go Go.RowKit Go.Proofs.YtbcleckapamicaaW.PrintWords Go.Proofs.YtbcleckapamicaaW.PrintLast Go.Proofs.YtbcleckapamicaaW.PrintMore
set_option linter.unusedVariables false
set_option linter.unusedSimpArgs false

/-- A stream: the struct's two cells (block sb), the map that the second leads to. -/
structure St (w : World) (sb : Nat) (m : Option Nat) (t : Int) (F : Fn) (n : Nat) : Prop where
  c0 : w.cell? ⟨sb, 0, none⟩ = some (.int .i64 t)
  c1 : w.cell? ⟨sb, 1, none⟩ = some (.map m)
  f0 : w.frozen? ⟨sb, 0, none⟩ = false
  f1 : w.frozen? ⟨sb, 1, none⟩ = false
  mp : Mq w m n F

theorem St.lt {w : World} {sb : Nat} {m : Option Nat} {t : Int} {F : Fn} {n : Nat} (h : St w sb m t F n) : sb < w.heap.size := World.block_lt_of_cell? w _ h.c0
theorem St.ne {w : World} {sb b : Nat} {t : Int} {F : Fn} {n : Nat} (h : St w sb (some b) t F n) : b ≠ sb := h.mp.ne h.c0
theorem St.mlt {w : World} {sb b : Nat} {t : Int} {F : Fn} {n : Nat} (h : St w sb (some b) t F n) : b < w.heap.size := h.mp.lt
theorem St.mono {w : World} {sb : Nat} {m : Option Nat} {t : Int} {F : Fn} {n n' : Nat} (h : St w sb m t F n) (hn : n ≤ n') : St w sb m t F n' := ⟨h.c0, h.c1, h.f0, h.f1, h.mp.mono hn⟩
theorem St.ext {w : World} {sb : Nat} {m : Option Nat} {t : Int} {F G : Fn} {n : Nat} (h : St w sb m t F n) (e : ∀ k, (Lit.int .i64 k).wf = true → G k = F k) : St w sb m t G n := ⟨h.c0, h.c1, h.f0, h.f1, h.mp.ext e⟩
/-- Blocks elsewhere have turned, or new ones come. -/
theorem St.only {p : Nat → Prop} {w w' : World} {sb : Nat} {m : Option Nat} {t : Int} {F : Fn} {n : Nat} (h : St w sb m t F n) (ho : Only p w w') (hs : ¬ p sb) (hm : ∀ b, m = some b → ¬ p b) : St w' sb m t F n := by
  have hb := ho.block sb h.lt hs
  refine ⟨(World.cell?_of_block (w := w) (a := ⟨sb, 0, none⟩) hb).trans h.c0, (World.cell?_of_block (w := w) (a := ⟨sb, 1, none⟩) hb).trans h.c1, (World.frozen?_of_block (w := w) (a := ⟨sb, 0, none⟩) hb).trans h.f0, (World.frozen?_of_block (w := w) (a := ⟨sb, 1, none⟩) hb).trans h.f1, h.mp.move (fun b e => ?_)⟩
  subst e
  exact ho.block b h.mp.lt (hm b rfl)
/-- The map alone has turned. -/
theorem St.turned {w w' : World} {sb b : Nat} {t : Int} {F F' : Fn} {n n' : Nat} (h : St w sb (some b) t F n) (hM : Mq w' (some b) n' F') (ht : w.mapTurned w' b) : St w' sb (some b) t F' n' := by
  have hb := ht.grown.block sb h.lt (fun e => h.ne (Option.some.inj e).symm)
  exact ⟨(World.cell?_of_block (w := w) (a := ⟨sb, 0, none⟩) hb).trans h.c0, (World.cell?_of_block (w := w) (a := ⟨sb, 1, none⟩) hb).trans h.c1, (World.frozen?_of_block (w := w) (a := ⟨sb, 0, none⟩) hb).trans h.f0, (World.frozen?_of_block (w := w) (a := ⟨sb, 1, none⟩) hb).trans h.f1, hM⟩
theorem St.made {w : World} {sb : Nat} {t : Int} {F : Fn} {n : Nat} (h : St w sb none t F n) : St ((w.alloc (.map #[] 0)).setCell ⟨sb, 1, none⟩ (.map (some w.heap.size))) sb (some w.heap.size) t F n := by
  have hlt := h.lt
  have e0 : (w.alloc (.map #[] 0)).cell? ⟨sb, 0, none⟩ = some (.int .i64 t) := (World.cell?_alloc_lt _ _ _ hlt).trans h.c0
  have e1 : (w.alloc (.map #[] 0)).cell? ⟨sb, 1, none⟩ = some (.map none) := (World.cell?_alloc_lt _ _ _ hlt).trans h.c1
  refine ⟨?_, World.cell?_setCell_same _ _ _ e1, ?_, ?_, ?_⟩
  · rw [World.cell?_setCell_other _ _ _ _ (by simp)]
    exact e0
  · rw [World.frozen?_setCell, World.frozen?_alloc_old _ _ _ (by simp; omega)]
    exact h.f0
  · rw [World.frozen?_setCell, World.frozen?_alloc_old _ _ _ (by simp; omega)]
    exact h.f1
  · have hM : Mq ((w.alloc (.map #[] 0)).setCell ⟨sb, 1, none⟩ (.map (some w.heap.size))) (some w.heap.size) 0 (fun _ => none) := (Mq.made w).move (fun b e => by
      injection e with e
      subst e
      exact Below.heap_setCell _ _ _ _ (by simp; omega))
    exact (hM.mono (Nat.zero_le n)).ext (fun k hk => h.mp k hk)
theorem Only.made {w : World} {sb : Nat} {u : Value} (m : Option Nat) : Only (fun k => k = sb ∨ some k = m) w ((w.alloc (.map #[] 0)).setCell ⟨sb, 1, none⟩ u) := ((Only.refl _ w).alloc _).setCell (Or.inl rfl) u

theorem wf64 {k : Int} (h0 : -9223372036854775808 ≤ k) (h1 : k ≤ 9223372036854775807) : (Lit.int .i64 k).wf = true := WalkArith.wf_i64 (by omega)
theorem wf8 {k : Int} (h : 0 ≤ k ∧ k ≤ 255) : (Lit.int .u8 k).wf = true := WalkArith.wf_u8 (by omega)

/-- What a stream's operation leaves. -/
def After (w w' : World) (sb : Nat) (m : Option Nat) (t : Int) (F : Fn) (n : Nat) : Prop :=
  ∃ m', St w' sb m' t F n ∧ (m' = m ∨ ∃ b, m' = some b ∧ w.heap.size ≤ b) ∧ Only (fun k => k = sb ∨ some k = m) w w'

theorem nilEq : ∀ (w : World) (r : Option Nat), (binOp .eql 40 (.map r) (.map none)).run Try.prog w = .ok (.bool r.isNone) w := fun w r => run_eql_map_nil w _ _ _ r Try.underlying40

set_option maxHeartbeats 1000000 in
theorem put_bad {w : World} {sb : Nat} {m : Option Nat} {t : Int} {F : Fn} {n : Nat} (hS : St w sb m t F n) (A : Option Addr) (c : Nat) (l : List Int) (p : Int) (hp : p < 0 ∨ p > 1073741824) :
    Calls Try.prog 25 #[.pointer (some ⟨sb, 0, none⟩), .int .i64 p, .slice A l.length c] w fun e w' => e = .returned (.int .i64 1) ∧ w' = w := by
  by_cases h0 : p < 0
  · have d0 : decide (p < 0) = true := decide_eq_true h0
    clear hS hp h0
    go_enter Try.func25, Try.ntmps25
    go_wp2
    go_ret
    exact ⟨rfl, rfl⟩
  · have d0 : decide (p < 0) = false := decide_eq_false h0
    have d1 : decide (1073741824 < p) = true := decide_eq_true (by omega)
    clear hS hp h0
    go_enter Try.func25, Try.ntmps25
    go_wp2
    go_ret
    exact ⟨rfl, rfl⟩
set_option maxHeartbeats 1000000 in
theorem put_long {w : World} {sb : Nat} {m : Option Nat} {t : Int} {F : Fn} {n : Nat} (hS : St w sb m t F n) (A : Option Addr) (c : Nat) (l : List Int) (p : Int) (h0 : 0 ≤ p) (h1 : p ≤ 1073741824) (ht : 0 ≤ t) (ht' : t ≤ 1099511627776) (hl : l.length ≤ 1099511627776)
    (h2 : 0 < l.length) (h3 : p + l.length - t > 4096) :
    Calls Try.prog 25 #[.pointer (some ⟨sb, 0, none⟩), .int .i64 p, .slice A l.length c] w fun e w' => e = .returned (.int .i64 4) ∧ w' = w := by
  have d0 : decide (p < 0) = false := decide_eq_false (by omega)
  have d1 : decide (1073741824 < p) = false := decide_eq_false (by omega)
  have d2 : decide (0 < (l.length : Int)) = true := decide_eq_true (by omega)
  have d2' : decide (0 < l.length) = true := decide_eq_true (by omega)
  have e1 : wrap64 (p + (l.length : Int)) = p + (l.length : Int) := by unfold wrap64; omega
  have e2 : wrap64 (p + (l.length : Int) - t) = p + (l.length : Int) - t := by unfold wrap64; omega
  have d3 : decide (4096 < p + (l.length : Int) - t) = true := decide_eq_true (by omega)
  have c0 := hS.c0
  clear hS
  go_enter Try.func25, Try.ntmps25
  go_wp2
  go_ret
  exact ⟨rfl, rfl⟩
end Go.Proofs.Ytbcleckapamicaa.Stm
