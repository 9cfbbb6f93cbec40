/- ChooseVerifies holds for every input: who verifies a choice has the server's, whatever list he was told ahead. No condition. -/
import Derived.Test.YtbcleckapamicaaPrmChooseVerifies
import Derived.Test.YtbcleckapamicaaPureChoosePicks
namespace Go.Proofs.Ytbcleckapamicaa.Pure
open Go.RowKit Go.Proofs.Ytbcleckapamicaa.QCh Go.Proofs.YtbcleckapamicaaW.PrintWords Go.Proofs.YtbcleckapamicaaW.PrintLast
open Go.Proofs.Ytbcleckapamicaa.Ch (firstIn rd_nat choose_first.f choose_React.f)
set_option linter.unusedVariables false

theorem firstIn_mem (l a : List Int) (h : ∃ n, n ∈ l ∧ n ∈ a) : firstIn l a ∈ l := by
  unfold firstIn
  cases e : l.find? (fun n => decide (n ∈ a)) with
  | none =>
    obtain ⟨n, h1, h2⟩ := h
    rw [List.find?_eq_none] at e
    exact absurd (e n h1) (by simp [h2])
  | some x => exact List.mem_of_find?_eq_some e

theorem verifies_end (s o : List Int) (x : Int) : ((choose_Verify.f o s x).bind fun t148 => (if t148 = 0 then ((choose_Pick.f s o).bind fun t149 => (if t149 = x then ((shibbolethlaw19_awake.f).bind fun t150 => (some t150)) else (some false))) else ((shibbolethlaw19_awake.f).bind fun t151 => (some t151)))) = some true := by
  rw [verify_f, pick_f, awake_f]
  simp only [Option.bind_some]
  by_cases e : x = 0
  · simp [e]
  · by_cases e2 : firstIn s o = x
    · simp [e2]
    · simp [e, e2]

theorem verifies_l (s o : List Int) (ho : o.length ≤ 30) (x : Int) (hx : x ∈ o) : ∀ (d i k : Nat) (b : Bool), i + d = o.length → d < k → (b = true ∨ x ∈ o.drop i) → shibbolethlaw19_ChooseVerifies.l0 k s o x b (i : Int) = some true := by
  intro d
  induction d with
  | zero =>
    intro i k b hi hk hb
    obtain ⟨k, rfl⟩ : ∃ m, k = m + 1 := ⟨k - 1, by omega⟩
    have hb' : b = true := by
      rcases hb with h | h
      · exact h
      · rw [List.drop_of_length_le (by omega)] at h; cases h
    simp only [shibbolethlaw19_ChooseVerifies.l0]
    rw [if_neg (by omega), if_pos hb']
    exact verifies_end s o x
  | succ d ih =>
    intro i k b hi hk hb
    obtain ⟨k, rfl⟩ : ∃ m, k = m + 1 := ⟨k - 1, by omega⟩
    have hlt : i < o.length := by omega
    have hd : o.drop i = o[i] :: o.drop (i + 1) := List.drop_eq_getElem_cons hlt
    simp only [shibbolethlaw19_ChooseVerifies.l0]
    rw [if_pos (by omega), show wrap64 ((i : Int) + 1) = ((i + 1 : Nat) : Int) from by unfold wrap64; omega]
    cases b with
    | true => rw [if_pos rfl]; exact ih (i + 1) k true (by omega) (by omega) (.inl rfl)
    | false =>
      rw [if_neg (by decide), if_pos (by omega), rd_nat o i hlt]
      refine ih (i + 1) k _ (by omega) (by omega) ?_
      have h := hb.resolve_left (by decide)
      rw [hd] at h
      rcases List.mem_cons.1 h with h | h
      · left; rw [h]; simp
      · exact .inr h

theorem ChooseVerifies : chooseVerifiesPrm.Pure := by
  rintro ⟨s, o, t, u⟩ _
  refine ⟨100, ?_⟩
  show shibbolethlaw19_ChooseVerifies.f 100 s o t u = some true
  unfold shibbolethlaw19_ChooseVerifies.f
  by_cases h0 : (s.length : Int) > 30
  · rw [if_pos h0]; simp [shibbolethlaw19_ChooseVerifies.j0]
  by_cases h1 : (o.length : Int) > 30
  · rw [if_neg h0, if_pos h1]; simp [shibbolethlaw19_ChooseVerifies.j0]
  rw [if_neg h0, if_neg h1]
  simp only [shibbolethlaw19_ChooseVerifies.j0]
  by_cases h2 : (t.length : Int) > 30
  · rw [decide_eq_true h2]; rfl
  · rw [decide_eq_false h2, if_neg (by decide), react_f]
    simp only [Option.bind_some]
    unfold reactS
    by_cases e1 : u ∈ t
    · rw [if_pos e1, if_neg (by decide), if_pos rfl, awake_f]; rfl
    · rw [if_neg e1]
      by_cases e2 : ∃ n, n ∈ o ∧ n ∈ t
      · rw [if_pos e2, if_pos rfl]
        exact verifies_l s o (by omega) _ (firstIn_mem o t e2) o.length 0 99 false (by omega) (by omega) (.inr (by rw [List.drop_zero]; exact firstIn_mem o t e2))
      · rw [if_neg e2, if_neg (by decide), if_pos rfl, awake_f]; rfl
end Go.Proofs.Ytbcleckapamicaa.Pure
