/- choose.first and choose.React, as the print tells functions: what they come to, and that the Go code comes to it. -/
import Derived.Test.YtbcleckapamicaaCh0
namespace Go.Proofs.Ytbcleckapamicaa.Ch
open Go.RowKit Go.Proofs.YtbcleckapamicaaW.PrintWords Go.Proofs.YtbcleckapamicaaW.PrintLast Go.Proofs.YtbcleckapamicaaW.PrintMore
open Go.Proofs.Ytbcleckapamicaa.PChoosePicks
set_option linter.unusedVariables false
set_option linter.unusedSimpArgs false

theorem rd_nat (l : List Int) (i : Nat) (h : i < l.length) : rd l (i : Int) = l[i] := by
  simp [rd, List.getD_eq_getElem?_getD, List.getElem?_eq_getElem h]

/-- slices.Index finds what is there. -/
theorem index_l (l : List Int) (x : Int) (hl : l.length ≤ 9223372036854775807) : ∀ (d i k : Nat), i + d = l.length → d < k →
    ∃ r, slices_Index_int_int.l0 k l x (l.length : Int) (i : Int) = some r ∧ (0 ≤ r ↔ x ∈ l.drop i) := by
  intro d
  induction d with
  | zero =>
    intro i k hi hk
    obtain ⟨k, rfl⟩ : ∃ m, k = m + 1 := ⟨k - 1, by omega⟩
    refine ⟨-1, ?_, ?_⟩
    · simp only [slices_Index_int_int.l0]; rw [if_neg (by omega)]
    · rw [List.drop_of_length_le (by omega)]; simp
  | succ d ih =>
    intro i k hi hk
    obtain ⟨k, rfl⟩ : ∃ m, k = m + 1 := ⟨k - 1, by omega⟩
    have hlt : i < l.length := by omega
    have hd : l.drop i = l[i] :: l.drop (i + 1) := List.drop_eq_getElem_cons hlt
    by_cases e : x = l[i]
    · refine ⟨i, ?_, ?_⟩
      · simp only [slices_Index_int_int.l0]
        rw [if_pos (by omega), if_pos (by omega), if_pos (by omega), rd_nat l i hlt, if_pos e]
      · exact ⟨fun _ => by rw [hd]; exact List.mem_cons.2 (.inl e), fun _ => by omega⟩
    · obtain ⟨r, hr, h⟩ := ih (i + 1) k (by omega) (by omega)
      refine ⟨r, ?_, ?_⟩
      · simp only [slices_Index_int_int.l0]
        rw [if_pos (by omega), if_pos (by omega), if_pos (by omega), rd_nat l i hlt, if_neg e, show wrap64 ((i : Int) + 1) = ((i + 1 : Nat) : Int) from by unfold wrap64; omega]
        exact hr
      · exact h.trans ⟨fun hx => by rw [hd]; exact List.mem_cons_of_mem _ hx, fun hx => by rw [hd] at hx; exact (List.mem_cons.1 hx).resolve_left e⟩

theorem contains_ev (l : List Int) (x : Int) (hl : l.length ≤ 9223372036854775807) : slices_Contains_int_int.f (l.length + 1) l x = some (decide (x ∈ l)) := by
  obtain ⟨r, hr, h⟩ := index_l l x hl l.length 0 (l.length + 1) (by omega) (by omega)
  have e : slices_Index_int_int.f (l.length + 1) l x = some r := hr
  unfold slices_Contains_int_int.f
  rw [e]
  rw [List.drop_zero] at h
  simp [h]

theorem contains_calls (A : Option Addr) (c : Nat) (l : List Int) (x : Int) (w : World) (hr : Kd.C (Kd.int .i64) w A l.length l) (hc : l.length ≤ c) :
    Calls Try.prog 45 #[.slice A l.length c, .int .i64 x] w fun e w' => e = .returned (.bool (decide (x ∈ l))) ∧ Drawn0 w w' :=
  slices_Contains_int_int.calls (l.length + 1) A c l x _ w hr hc (contains_ev l x hr.2.1)

/-- What the closures ask: is it among those in the box? -/
theorem pred63 (B : Nat) (A : Option Addr) (c : Nat) (l : List Int) (w : World) (hc : l.length ≤ c) (hb : w.cell? ⟨B, 0, none⟩ = some (.slice A l.length c)) (hr : Kd.C (Kd.int .i64) w A l.length l) :
    PredD 63 #[.pointer (some ⟨B, 0, none⟩)] (fun x => decide (x ∈ l)) w := by
  intro x q
  have H := contains_calls A c l x (w.drewN q) (Kd.C_drewN hr q) hc
  have hb' : (w.drewN q).cell? ⟨B, 0, none⟩ = some (.slice A l.length c) := by simpa using hb
  generalize hd : decide (x ∈ l) = d at H
  clear hr hb
  go_enter Try.func63, Try.ntmps63
  go_wp2_with (go_at_call 45; refine H.mono ?_; rintro e w' ⟨rfl, ⟨n, rfl⟩⟩)
  go_ret
  exact ⟨by simp [hd], ⟨⟨n, (World.drewN_drewN ..).symm⟩⟩⟩
theorem pred47 (B : Nat) (A : Option Addr) (c : Nat) (l : List Int) (w : World) (hc : l.length ≤ c) (hb : w.cell? ⟨B, 0, none⟩ = some (.slice A l.length c)) (hr : Kd.C (Kd.int .i64) w A l.length l) :
    PredD 47 #[.pointer (some ⟨B, 0, none⟩)] (fun x => decide (x ∈ l)) w := by
  intro x q
  have H := contains_calls A c l x (w.drewN q) (Kd.C_drewN hr q) hc
  have hb' : (w.drewN q).cell? ⟨B, 0, none⟩ = some (.slice A l.length c) := by simpa using hb
  generalize hd : decide (x ∈ l) = d at H
  clear hr hb
  go_enter Try.func47, Try.ntmps47
  go_wp2_with (go_at_call 45; refine H.mono ?_; rintro e w' ⟨rfl, ⟨n, rfl⟩⟩)
  go_ret
  exact ⟨by simp [hd], ⟨⟨n, (World.drewN_drewN ..).symm⟩⟩⟩

/-- The first of some that is among others; 0: none is. -/
def firstIn (l among : List Int) : Int := (l.find? fun n => decide (n ∈ among)).getD 0
def choose_first.f (l0 l1 : List Int) : Option Int := some (firstIn l0 l1)
def choose_React.f (l0 l1 : List Int) (a2 : Int) : Option (Int × Int) :=
  if a2 ∈ l0 then some (0, 12) else if ∃ n, n ∈ l1 ∧ n ∈ l0 then some (firstIn l1 l0, 0) else some (0, 13)

theorem idxP_first (l a : List Int) : idxP (fun x => decide (x ∈ a)) l < 0 ∧ firstIn l a = 0 ∧ (¬ ∃ n, n ∈ l ∧ n ∈ a) ∨
    0 ≤ idxP (fun x => decide (x ∈ a)) l ∧ idxP (fun x => decide (x ∈ a)) l < l.length ∧ rd l (idxP (fun x => decide (x ∈ a)) l) = firstIn l a ∧ ∃ n, n ∈ l ∧ n ∈ a := by
  unfold idxP firstIn
  cases h : l.findIdx? (fun x => decide (x ∈ a)) with
  | none =>
    left
    rw [List.findIdx?_eq_none_iff] at h
    refine ⟨by simp, ?_, ?_⟩
    · rw [List.find?_eq_none.2 (fun x hx => by simpa using h x hx)]; rfl
    · rintro ⟨n, h1, h2⟩
      have := h n h1
      simp [h2] at this
  | some i =>
    right
    have h' := h
    rw [List.findIdx?_eq_some_iff_getElem] at h
    obtain ⟨hi, h1, h2⟩ := h
    refine ⟨by simp, by simpa using hi, ?_, ⟨l[i], List.getElem_mem hi, by simpa using h1⟩⟩
    show rd l (i : Int) = _
    rw [rd_nat l i hi]
    have : l.find? (fun n => decide (n ∈ a)) = some l[i] := by
      rw [List.find?_eq_some_iff_getElem]
      exact ⟨h1, i, hi, rfl, fun j hj => by have := h2 j hj; simpa using this⟩
    rw [this]; rfl

set_option maxHeartbeats 1000000 in
theorem choose_first.calls (A0 : Option Addr) (c0 : Nat) (l0 : List Int) (A1 : Option Addr) (c1 : Nat) (l1 : List Int) (r : Int) (w : World) (hr0 : Kd.C (Kd.int .i64) w A0 l0.length l0) (hc0 : l0.length ≤ c0) (hr1 : Kd.C (Kd.int .i64) w A1 l1.length l1) (hc1 : l1.length ≤ c1) (h : choose_first.f l0 l1 = some r) :
    Calls Try.prog 43 #[.slice A0 l0.length c0, .slice A1 l1.length c1] w fun e w' => e = .returned (.int .i64 r) ∧ Below w.heap.size w w' := by
  obtain rfl : firstIn l0 l1 = r := Option.some.inj h
  clear h
  have hm := hr0.2.1
  have hp := pred63 w.heap.size A1 c1 l1 (w.alloc (.cells #[.slice A1 l1.length c1] 22)) hc1 (by simp) (Kd.C_alloc hr1 _)
  have H := indexFunc_calls 63 _ _ (enters_ Try.func63 (by kernel_rfl) rfl) A0 l0 c0 (w.alloc (.cells #[.slice A1 l1.length c1] 22)) (Kd.C_alloc hr0 _) hp
  have HR0 := Aside0.mk hr0
  clear hp hr0 hr1 hc1
  rcases idxP_first l0 l1 with ⟨h1, h2, _⟩ | ⟨h1, h2, h3, _⟩
  · generalize idxP (fun x => decide (x ∈ l1)) l0 = i at H h1
    rw [h2]
    clear h2
    go_enter Try.func43, Try.ntmps43
    go_wp2_with (go_at_call 62; refine H.mono ?_; rintro e w' ⟨rfl, ⟨n, rfl⟩⟩)
    go_ret
    exact ⟨rfl, pw_below_drewN ((Below.refl _ _).alloc (Nat.le_refl _) _) _⟩
  · generalize idxP (fun x => decide (x ∈ l1)) l0 = i at H h1 h2 h3
    obtain ⟨ad, rfl, hcell⟩ := Kd.at_int (Kd.C_alloc HR0.out (.cells #[.slice A1 l1.length c1] 22)) i h1 h2
    rw [h3] at hcell
    clear h3
    go_enter Try.func43, Try.ntmps43
    go_wp2_with (go_at_call 62; refine H.mono ?_; rintro e w' ⟨rfl, ⟨n, rfl⟩⟩)
    go_ret
    exact ⟨rfl, pw_below_drewN ((Below.refl _ _).alloc (Nat.le_refl _) _) _⟩
end Go.Proofs.Ytbcleckapamicaa.Ch
