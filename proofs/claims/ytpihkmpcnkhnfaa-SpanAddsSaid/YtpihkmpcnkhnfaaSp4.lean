/- A set as spans: place, Has, Floor, Clone. -/
import Derived.Test.YtpihkmpcnkhnfaaSp3
namespace Go.Proofs.Ytpihkmpcnkhnfaa.Sp
open Go Go.RowKit Go.Lib Go.Proofs.YtpihkmpcnkhnfaaW.PrintWords
open Go.Proofs.Ytpihkmpcnkhnfaa.Onl (Only)
set_option linter.unusedVariables false
set_option linter.unusedSimpArgs false

theorem St.below {W W' : World} {sb : Nat} {A : Option Addr} {c : Nat} {f : Int} {l : List Spn} (h : St W sb A c f l) (hb : Below W.heap.size W W') : St W' sb A c f l :=
  h.only (Only.of_below hb : Only (fun _ => False) W W') (fun q => q) (fun _ _ q => q)

set_option maxHeartbeats 4000000 in
set_option maxRecDepth 100000 in
theorem place_calls {W : World} {sb : Nat} {A : Option Addr} {c : Nat} {f x : Int} {l : List Spn} (hS : St W sb A c f l) (hA : Asc l) (hl : l.length ≤ 1000) :
    Calls Try.prog 18 #[.pointer (some ⟨sb, 0, none⟩), .int .i64 x] W fun e w' => e = .returned (.int .i64 (pl l x)) ∧ Below W.heap.size W w' := by
  have hmf : ∀ (fn : Fn) (first cap : Array Value) (w : World), (Instr.makeFunc fn first cap).run Try.prog w = .ok (.func fn first cap) w := fun _ _ _ _ => rfl
  obtain ⟨W1, hW1⟩ : ∃ y, (W.alloc (.cells #[.pointer (some ⟨sb, 0, none⟩)] 23)).alloc (.cells #[.int .i64 x] 3) = y := ⟨_, rfl⟩
  have hB : Below W.heap.size W W1 := by rw [← hW1]; exact below_alloc (below_alloc (Below.refl _ _) _) _
  have g1 : W1.cell? ⟨W.heap.size, 0, none⟩ = some (.pointer (some ⟨sb, 0, none⟩)) := by
    rw [← hW1, World.cell?_alloc_lt _ _ _ (by simp [World.size_alloc]), World.cell?_alloc_at _ _ _ _ rfl]; rfl
  have g2 : W1.cell? ⟨W.heap.size + 1, 0, none⟩ = some (.int .i64 x) := by
    rw [← hW1, World.cell?_alloc_at _ _ _ _ (by rw [World.size_alloc])]; rfl
  have HS := Aside0.mk (search_calls (hS.below hB) g1 g2 hA hl)
  have c0 := (hS.below hB).cells.1
  have HB := Aside0.mk hB
  obtain ⟨n, hn⟩ : ∃ n, l.length = n := ⟨_, rfl⟩
  rw [hn] at HS c0
  obtain ⟨r, hr⟩ : ∃ r, pl l x = r := ⟨_, rfl⟩
  rw [hr] at HS ⊢
  have HW1 := Aside0.mk hW1
  clear hS hA hB g2 hn hr hW1 hl
  go_enter Try.func18, Try.ntmps18
  go_upto_region 1 with fail
  try rw [HW1.out]
  go_wp2_with (go_at_call 25; refine HS.out.mono ?_; rintro e w' ⟨rfl, q, rfl⟩)
  go_ret
  exact ⟨rfl, pw_below_drewN HB.out q⟩

/-- Is a number in a span? -/
def hs (l : List Spn) (x : Int) : Bool := match l[pl l x]? with
  | some s => decide (s.1 ≤ x)
  | none => false

set_option maxHeartbeats 4000000 in
set_option maxRecDepth 100000 in
theorem has_calls {W : World} {sb : Nat} {A : Option Addr} {c : Nat} {f x : Int} {l : List Spn} (hS : St W sb A c f l) (hA : Asc l) (hl : l.length ≤ 1000) :
    Calls Try.prog 14 #[.pointer (some ⟨sb, 0, none⟩), .int .i64 x] W fun e w' => e = .returned (.bool (hs l x)) ∧ Below W.heap.size W w' := by
  have HP := Aside0.mk (place_calls (x := x) hS hA hl)
  have hle := pl_le l x
  have HS := Aside0.mk hS
  have hh : hs l x = match l[pl l x]? with | some s => decide (s.1 ≤ x) | none => false := rfl
  obtain ⟨r, hr⟩ : ∃ r, pl l x = r := ⟨_, rfl⟩
  rw [hr] at HP hle hh
  obtain ⟨n, hn⟩ : ∃ n, l.length = n := ⟨_, rfl⟩
  have HN := Aside0.mk hn
  clear hS hA hr
  by_cases hlt : r < l.length
  · have hq : hs l x = decide (l[r].1 ≤ x) := by rw [hh, List.getElem?_eq_getElem hlt]
    rw [hq]
    have HG := Aside0.mk (fun (W' : World) (hb : Below W.heap.size W W') => (HS.out.below hb).row.get r hlt)
    obtain ⟨y, hy⟩ : ∃ y, l[r].1 = y := ⟨_, rfl⟩
    rw [hy] at ⊢ HG
    have hrn : r < n := by omega
    have q1 : decide ((r : Int) < (n : Int)) = true := decide_eq_true (by omega)
    have q2 : decide (r < n) = true := decide_eq_true hrn
    have HC := Aside0.mk (fun (W' : World) (hb : Below W.heap.size W W') => (HS.out.below hb).cells.1)
    rw [hn] at HC
    clear hh hq hy hle hn hl HN HS
    go_enter Try.func14, Try.ntmps14
    go_wp2_with (go_at_call 18; refine HP.out.mono ?_; rintro e w' ⟨rfl, hb⟩; have HB := Aside0.mk hb; have c0 := HC.out w' hb; obtain ⟨b, off, rfl, g1, _⟩ := HG.out w' hb; clear hb)
    go_ret
    exact ⟨rfl, HB.out⟩
  · have hq : hs l x = false := by rw [hh, List.getElem?_eq_none (by omega)]
    rw [hq]
    obtain rfl : r = n := by omega
    have HC := Aside0.mk (fun (W' : World) (hb : Below W.heap.size W W') => (HS.out.below hb).cells.1)
    rw [hn] at HC
    clear hh hq hle hn hlt hl HN HS
    go_enter Try.func14, Try.ntmps14
    go_wp2_with (go_at_call 18; refine HP.out.mono ?_; rintro e w' ⟨rfl, hb⟩; have HB := Aside0.mk hb; have c0 := HC.out w' hb; clear hb)
    go_ret
    exact ⟨rfl, HB.out⟩

set_option maxHeartbeats 4000000 in
theorem floor_calls {W : World} {sb : Nat} {A : Option Addr} {c : Nat} {f : Int} {l : List Spn} (hS : St W sb A c f l) :
    Calls Try.prog 13 #[.pointer (some ⟨sb, 0, none⟩)] W fun e w' => e = .returned (.int .i64 f) ∧ w' = W := by
  have c1 := hS.cells.2
  clear hS
  go_enter Try.func13, Try.ntmps13
  go_wp2
  go_ret
  exact ⟨rfl, rfl⟩
end Go.Proofs.Ytpihkmpcnkhnfaa.Sp
