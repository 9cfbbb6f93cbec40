/- A set as spans: what adding a number does, plainly; varint.Size. -/
import Derived.Test.YtpihkmpcnkhnfaaSp5
namespace Go.Proofs.Ytpihkmpcnkhnfaa.Sp
open Go Go.RowKit Go.Lib Go.Proofs.YtpihkmpcnkhnfaaW.PrintWords
open Go.Proofs.Ytpihkmpcnkhnfaa.Onl (Only)
set_option linter.unusedVariables false
set_option linter.unusedSimpArgs false

abbrev big : Int := 4611686018427387903
/-- Does the span ahead end just below? -/
def pB (l : List Spn) (x : Int) : Bool := decide (0 < pl l x) && (match l[pl l x - 1]? with | some s => decide (s.2 = x - 1) | none => false)
/-- Does the span behind begin just above? -/
def qB (l : List Spn) (x : Int) : Bool := match l[pl l x]? with | some s => decide (s.1 = x + 1) | none => false
def frm (l : List Spn) (x : Int) : Nat := if pB l x then pl l x - 1 else pl l x
def too (l : List Spn) (x : Int) : Nat := if qB l x then pl l x + 1 else pl l x
def own1 (l : List Spn) (x : Int) : Int := if pB l x then (l.getD (pl l x - 1) (0, 0)).1 else x
def own2 (l : List Spn) (x : Int) : Int := if qB l x then (l.getD (pl l x) (0, 0)).2 else x
/-- The spans with the number. -/
def put (l : List Spn) (x : Int) : List Spn := l.take (frm l x) ++ [(own1 l x, own2 l x)] ++ l.drop (too l x)
/-- May it be added? -/
def may (l : List Spn) (f x : Int) : Bool := decide (0 ≤ x ∧ x ≤ big) && decide (f ≤ x) && !(hs l x)
/-- Adding a number: whether, the spans, the floor. -/
def addS (l : List Spn) (f x : Int) : Bool × List Spn × Int :=
  if may l f x then (if 32 < (put l x).length then (true, (put l x).drop 1, ((put l x).getD 0 (0, 0)).2 + 1) else (true, put l x, f)) else (false, l, f)

set_option maxHeartbeats 4000000 in
theorem size_calls (W : World) (x : Int) :
    Calls Try.prog 17 #[.int .i64 x] W fun e w' => ∃ z, e = .returned (.int .i64 z) ∧ (z = 0 ↔ ¬ (0 ≤ x ∧ x ≤ 4611686018427387903)) ∧ w' = W := by
  by_cases h1 : x < 0
  · go_enter Try.func17, Try.ntmps17
    go_wp2
    go_ret
    exact ⟨0, rfl, by omega, rfl⟩
  by_cases h2 : 4611686018427387903 < x
  · go_enter Try.func17, Try.ntmps17
    go_wp2
    go_ret
    exact ⟨0, rfl, by omega, rfl⟩
  by_cases h3 : x < 64
  · go_enter Try.func17, Try.ntmps17
    go_wp2
    go_ret
    exact ⟨1, rfl, by omega, rfl⟩
  by_cases h4 : x < 16384
  · go_enter Try.func17, Try.ntmps17
    go_wp2
    go_ret
    exact ⟨2, rfl, by omega, rfl⟩
  by_cases h5 : x < 1073741824
  · go_enter Try.func17, Try.ntmps17
    go_wp2
    go_ret
    exact ⟨4, rfl, by omega, rfl⟩
  go_enter Try.func17, Try.ntmps17
  go_wp2
  go_ret
  exact ⟨8, rfl, by omega, rfl⟩

/-- What adding leaves. -/
def Added (W : World) (sb : Nat) (A : Option Addr) (l : List Spn) (f x : Int) (e : Ending) (W' : World) : Prop :=
  ∃ A' c', e = .returned (.bool (addS l f x).1) ∧ St W' sb A' c' (addS l f x).2.2 (addS l f x).2.1 ∧ Only (fun k => k = sb ∨ some k = rb A) W W' ∧ (rb A' = rb A ∨ ∀ k, rb A' = some k → W.heap.size ≤ k) ∧ ((addS l f x).1 = false → A' = A)

set_option maxHeartbeats 4000000 in
set_option maxRecDepth 100000 in
/-- What may not be added is not. -/
theorem add_no {W : World} {sb : Nat} {A : Option Addr} {c : Nat} {f x : Int} {l : List Spn} (hS : St W sb A c f l) (hA : Asc l) (hl : l.length ≤ 1000) (hm : may l f x = false) :
    Calls Try.prog 7 #[.pointer (some ⟨sb, 0, none⟩), .int .i64 x] W (Added W sb A l f x) := by
  have HZ := Aside0.mk (size_calls W x)
  have HH := Aside0.mk (has_calls (x := x) hS hA hl)
  have hadd : addS l f x = (false, l, f) := by unfold addS; rw [hm]; rfl
  have c1 := hS.cells.2
  have HS := Aside0.mk hS
  have HP := Aside0.mk (fun (W' : World) (hb : Below W.heap.size W W') => show Added W sb A l f x (.returned (.bool false)) W' from
    ⟨A, c, by rw [hadd], by rw [hadd]; exact HS.out.below hb, (Only.of_below hb), .inl rfl, fun _ => rfl⟩)
  unfold may at hm
  clear hS hA hl hadd
  by_cases h1 : 0 ≤ x ∧ x ≤ big
  · by_cases h2 : f ≤ x
    · have h3 : hs l x = true := by
        simp only [decide_eq_true h1, decide_eq_true h2, Bool.true_and] at hm
        simpa using hm
      rw [h3] at HH
      have g2 : decide (x < f) = false := decide_eq_false (by omega)
      have H1 := Aside0.mk h1
      clear hm h3 h1 h2
      go_enter Try.func7, Try.ntmps7
      go_wp2_with (first
        | (go_at_call 17; refine HZ.out.mono ?_; rintro e w1 ⟨z, rfl, hz, rfl⟩; have hz0 : (z == 0) = false := (by simp only [beq_eq_false_iff_ne]; exact fun q => hz.1 q H1.out); have hz1 : ¬ z = 0 := (fun q => hz.1 q H1.out); clear hz)
        | (go_at_call 14; refine HH.out.mono ?_; rintro e w2 ⟨rfl, hb⟩; have HB := Aside0.mk hb; clear hb))
      go_ret
      exact HP.out _ HB.out
    · have g2 : decide (x < f) = true := decide_eq_true (by omega)
      have H1 := Aside0.mk h1
      clear hm h1 h2 HH
      go_enter Try.func7, Try.ntmps7
      go_wp2_with (go_at_call 17; refine HZ.out.mono ?_; rintro e w1 ⟨z, rfl, hz, rfl⟩; have hz0 : (z == 0) = false := (by simp only [beq_eq_false_iff_ne]; exact fun q => hz.1 q H1.out); have hz1 : ¬ z = 0 := (fun q => hz.1 q H1.out); clear hz)
      go_ret
      exact HP.out _ (Below.refl _ _)
  · have H1 := Aside0.mk h1
    clear hm h1 HH
    go_enter Try.func7, Try.ntmps7
    go_wp2_with (go_at_call 17; refine HZ.out.mono ?_; rintro e w1 ⟨z, rfl, hz, rfl⟩; obtain rfl := hz.2 H1.out; clear hz)
    go_ret
    exact HP.out _ (Below.refl _ _)
end Go.Proofs.Ytpihkmpcnkhnfaa.Sp
