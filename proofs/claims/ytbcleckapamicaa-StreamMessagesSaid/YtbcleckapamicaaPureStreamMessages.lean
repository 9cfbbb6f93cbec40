/- StreamMessages holds for every input: a message's bytes, and what any bytes consist of, are as the document says. No condition. -/
import Derived.Test.YtbcleckapamicaaQSmx2
import Derived.Test.YtbcleckapamicaaMsgP
namespace Go.Proofs.Ytbcleckapamicaa.Pure
open Go.RowKit Go.Proofs.Ytbcleckapamicaa.QSm Go.Proofs.YtbcleckapamicaaW.PrintWords Go.Proofs.YtbcleckapamicaaW.PrintLast Go.Proofs.Ytbcleckapamicaa.MsgP Go.Proofs.Ytbcleckapamicaa.Sg
set_option linter.unusedVariables false

theorem all_same (P : List (List Int)) (hP : P.length ≤ 10000) (hm : ∀ m ∈ P, m.length ≤ 10000) : ∀ (d k i : Nat), P.length ≤ i + d → i ≤ P.length → d + 10001 < k → shibbolethlaw13_StreamMessages.l0 k P P i = some true := by
  intro d
  induction d with
  | zero =>
    intro k i h hi hk
    obtain ⟨k, rfl⟩ : ∃ m, k = m + 1 := ⟨k - 1, by omega⟩
    simp only [shibbolethlaw13_StreamMessages.l0]
    rw [if_neg (by omega)]
    rfl
  | succ d ih =>
    intro k i h hi hk
    obtain ⟨k, rfl⟩ : ∃ m, k = m + 1 := ⟨k - 1, by omega⟩
    simp only [shibbolethlaw13_StreamMessages.l0]
    by_cases hc : i < P.length
    · have he : (rd_L1 P (i : Int)).length ≤ 10000 := by
        have : rd_L1 P (i : Int) = P[i] := by simp [rd_L1, List.getD_eq_getElem?_getD, hc]
        rw [this]
        exact hm _ (List.getElem_mem hc)
      rw [if_pos (by omega), if_pos (by omega), if_pos (by omega), same_self _ (by omega) k (by omega), Option.bind_some, if_pos rfl, show wrap64 ((i : Int) + 1) = ((i + 1 : Nat) : Int) by unfold wrap64; omega]
      exact ih k (i + 1) (by omega) (by omega) (by omega)
    · rw [if_neg (by omega)]
      rfl

theorem StreamMessages : shibbolethlaw13_StreamMessages.Pure := by
  intro a0 l1 ha _ _ hw
  have hB := bytes_of hw
  refine ⟨100000, ?_⟩
  unfold shibbolethlaw13_StreamMessages.f
  by_cases hl : (l1.length : Int) > 2100
  · rw [if_pos hl]
  · rw [if_neg hl, Option.bind_some, List.nil_append, if_pos (by simp; omega)]
    have h1 : stream_Messages.f l1 = some (mesP l1) := by
      unfold stream_Messages.f
      exact if_pos ⟨by omega, hB⟩
    have h2 := ref_messages l1 100000 (by omega) hB (by omega)
    have h3 : stream_Message.f a0 l1 = some (msgF a0 l1) := by
      unfold stream_Message.f
      exact if_pos (by omega)
    have h4 := ref_message a0 l1 (by omega) ha
    have hm : (msgF a0 l1).length ≤ 3000 := by
      unfold msgF
      split <;> simp <;> omega
    obtain ⟨q1, q2⟩ := mesP_mem l1
    rw [h1, Option.bind_some, h2, Option.bind_some, if_neg (by simp), if_pos rfl, h3, Option.bind_some, h4, Option.bind_some, same_self _ (by omega) _ (by omega), Option.bind_some]
    show shibbolethlaw13_StreamMessages.j0 (99999 + 1) _ _ _ = _
    rw [shibbolethlaw13_StreamMessages.j0, if_neg (by simp)]
    exact all_same _ (by omega) (fun m hm => by have := q2 m hm; omega) (mesP l1).1.length 99999 0 (by omega) (by omega) (by omega)
end Go.Proofs.Ytbcleckapamicaa.Pure
