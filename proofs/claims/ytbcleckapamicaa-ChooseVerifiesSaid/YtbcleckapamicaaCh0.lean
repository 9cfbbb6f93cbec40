/- slices.IndexFunc and ContainsFunc over []int with a predicate that only reads; choose.first; choose.React. -/
import Derived.Test.YtbcleckapamicaaPChoosePicksx1
namespace Go.Proofs.Ytbcleckapamicaa.Ch
open Go.RowKit Go.Proofs.YtbcleckapamicaaW.PrintWords Go.Proofs.YtbcleckapamicaaW.PrintLast Go.Proofs.YtbcleckapamicaaW.PrintMore
open Go.Proofs.Ytbcleckapamicaa.PChoosePicks
set_option linter.unusedVariables false
set_option linter.unusedSimpArgs false

/-- The place of the first element of which p holds; -1: none. -/
def idxP (p : Int → Bool) (l : List Int) : Int := match l.findIdx? p with
  | some i => (i : Int)
  | none => -1

theorem idxP_hit (p : Int → Bool) (l : List Int) (k : Nat) (hk : k < l.length) (h : p (rd l k) = true) (hb : ∀ j, j < k → p (rd l j) = false) : idxP p l = k := by
  have e : l.findIdx? p = some k := by
    rw [List.findIdx?_eq_some_iff_getElem]
    refine ⟨hk, ?_, ?_⟩
    · have : rd l k = l[k] := by simp [rd, List.getD_eq_getElem?_getD, List.getElem?_eq_getElem hk]
      rw [← this]; exact h
    · intro j hj
      have h1 : rd l j = l[j] := by simp [rd, List.getD_eq_getElem?_getD, List.getElem?_eq_getElem (show j < l.length by omega)]
      have := hb j hj
      rw [h1] at this
      simp [this]
  simp [idxP, e]

theorem idxP_miss (p : Int → Bool) (l : List Int) (hb : ∀ j : Nat, j < l.length → p (rd l j) = false) : idxP p l = -1 := by
  have e : l.findIdx? p = none := by
    rw [List.findIdx?_eq_none_iff]
    intro x hx
    obtain ⟨j, hj, rfl⟩ := List.mem_iff_getElem.1 hx
    have h1 : rd l j = l[j] := by simp [rd, List.getD_eq_getElem?_getD, List.getElem?_eq_getElem hj]
    have := hb j hj
    rwa [h1] at this
  simp [idxP, e]

/-- A predicate that only reads, by its closure. -/
def PredD (g : Nat) (lb : Array Value) (p : Int → Bool) (w : World) : Prop :=
  ∀ (x : Int) (q : Nat), Calls Try.prog g (#[.int .i64 x] ++ lb) (w.drewN q) fun e w' => e = .returned (.bool (p x)) ∧ Drawn0 (w.drewN q) w'

set_option maxHeartbeats 2000000 in
theorem indexFunc_calls (g : Nat) (lb : Array Value) (p : Int → Bool) (eg : ∀ args w, (callFunc g args).run Try.prog w = .ok (.enter g args) w) (A : Option Addr) (l : List Int) (c : Nat) (w : World)
    (hr : Kd.C (Kd.int .i64) w A l.length l) (hp : PredD g lb p w) :
    Calls Try.prog 62 #[.slice A l.length c, .func (.func g) #[] lb] w fun e w' => e = .returned (.int .i64 (idxP p l)) ∧ Drawn0 w w' := by
  have HR := Aside0.mk hr
  have hm := hr.2.1
  have HP := Aside0.mk hp
  clear hr hp
  go_enter Try.func62, Try.ntmps62
  go_wp2
  go_loopg [5, 8] l.length (fun gg _ s8 wr => ∃ k : Nat, k ≤ l.length ∧ l.length - k ≤ gg ∧ s8 = .int .i64 k ∧ Aside0 (∀ j, j < k → p (rd l j) = false) ∧ Drawn0 w wr)
  case atStart => exact ⟨0, Nat.zero_le _, by omega, rfl, ⟨fun j hj => absurd hj (Nat.not_lt_zero _)⟩, Drawn0.refl _⟩
  case round =>
    obtain ⟨k, hk, hg, rfl, HA, ⟨q, rfl⟩⟩ := hrel
    by_cases hlt : k < l.length
    · have hltz : (k : Int) < (l.length : Int) := by omega
      obtain ⟨ad, rfl, hcell⟩ := Kd.at_int HR.out (k : Int) (by omega) hltz
      rw [Int.toNat_natCast] at hcell
      have hcall := HP.out (rd l k) q
      cases hq : p (rd l k) with
      | true =>
        rw [hq] at hcall
        have Hq := Aside0.mk hq
        clear hq
        go_wp2_with ((with_reducible refine hcall.mono ?_); rintro e w' ⟨rfl, ⟨q', rfl⟩⟩)
        go_ret
        refine ⟨by rw [idxP_hit p l k hlt Hq.out HA.out]; rfl, ?_⟩
        repeat (first | exact Drawn0.refl _ | apply Drawn0.step)
      | false =>
        rw [hq] at hcall
        have Hq := Aside0.mk hq
        clear hq
        go_wp2_with ((with_reducible refine hcall.mono ?_); rintro e w' ⟨rfl, ⟨q', rfl⟩⟩)
        go_roundg (l.length - (k + 1))
        case measure => omega
        case rel =>
          refine ⟨k + 1, by omega, by omega, by go_num, ⟨fun j hj => ?_⟩, by repeat (first | exact Drawn0.refl _ | apply Drawn0.step)⟩
          by_cases e : j = k
          · subst e; exact Hq.out
          · exact HA.out j (by omega)
    · have hltz : ¬ (k : Int) < (l.length : Int) := by omega
      have e : k = l.length := by omega
      have E := Aside0.mk e
      clear e
      go_wp2
      go_ret
      refine ⟨by rw [idxP_miss p l (fun j hj => HA.out j (by rw [E.out]; exact hj))]; rfl, by repeat (first | exact Drawn0.refl _ | apply Drawn0.step)⟩

theorem containsFunc_calls (g : Nat) (lb : Array Value) (p : Int → Bool) (eg : ∀ args w, (callFunc g args).run Try.prog w = .ok (.enter g args) w) (A : Option Addr) (l : List Int) (c : Nat) (w : World)
    (hr : Kd.C (Kd.int .i64) w A l.length l) (hp : PredD g lb p w) :
    Calls Try.prog 46 #[.slice A l.length c, .func (.func g) #[] lb] w fun e w' => e = .returned (.bool (decide (0 ≤ idxP p l))) ∧ Drawn0 w w' := by
  have H := indexFunc_calls g lb p eg A l c w hr hp
  clear hr hp
  go_enter Try.func46, Try.ntmps46
  go_wp2_with (go_at_call 62; refine H.mono ?_; rintro e w' ⟨rfl, ⟨q, rfl⟩⟩)
  go_ret
  exact ⟨rfl, Drawn0.step (Drawn0.refl _) _⟩
end Go.Proofs.Ytbcleckapamicaa.Ch
