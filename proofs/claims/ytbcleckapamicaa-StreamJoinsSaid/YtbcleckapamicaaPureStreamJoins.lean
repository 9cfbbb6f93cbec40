/- StreamJoins holds for every input: the messages of two rows are those of both, one behind the other. No condition. -/
import Derived.Test.YtbcleckapamicaaQSmx3
import Derived.Test.YtbcleckapamicaaMsgP
namespace Go.Proofs.Ytbcleckapamicaa.Pure
open Go.RowKit Go.Proofs.Ytbcleckapamicaa.QSm Go.Proofs.YtbcleckapamicaaW.PrintWords Go.Proofs.YtbcleckapamicaaW.PrintLast Go.Proofs.Ytbcleckapamicaa.MsgP Go.Proofs.Ytbcleckapamicaa.Sg
open Go.Proofs.Ytbcleckapamicaa.Mes (parts mesF)
set_option linter.unusedVariables false

theorem joins_j1 (x y z : List (List Int)) (b : Bool) (k : Nat) (hx : x.length ≤ 10000) (hy : y.length ≤ 10000) (h : b = true ∧ z.length = x.length + y.length) : shibbolethlaw13_StreamJoins.j1 (k + 1) x y z b false = some true := by
  obtain ⟨rfl, h2⟩ := h
  rw [shibbolethlaw13_StreamJoins.j1, if_neg (by simp), if_pos rfl, if_pos (by rw [w_small (by omega) (by omega)]; omega)]
  rfl
theorem joins_away (x y z : List (List Int)) (b : Bool) (k : Nat) : shibbolethlaw13_StreamJoins.j1 (k + 1) x y z b true = some true := by
  rw [shibbolethlaw13_StreamJoins.j1, if_pos rfl]
  rfl

theorem StreamJoins : shibbolethlaw13_StreamJoins.Pure := by
  intro a b _ _ hwa _ _ hwb
  have hA := bytes_of hwa
  have hB := bytes_of hwb
  refine ⟨100000, ?_⟩
  unfold shibbolethlaw13_StreamJoins.f
  by_cases ha : (a.length : Int) > 500
  · rw [if_pos ha]
    show shibbolethlaw13_StreamJoins.j0 (99999 + 1) _ _ _ = _
    rw [shibbolethlaw13_StreamJoins.j0, if_pos rfl]
  · rw [if_neg ha]
    by_cases hb : (b.length : Int) > 500
    · rw [decide_eq_true hb]
      show shibbolethlaw13_StreamJoins.j0 (99999 + 1) _ _ _ = _
      rw [shibbolethlaw13_StreamJoins.j0, if_pos rfl]
    · rw [decide_eq_false hb]
      show shibbolethlaw13_StreamJoins.j0 (99999 + 1) _ _ _ = _
      rw [shibbolethlaw13_StreamJoins.j0, if_neg (by simp)]
      have h1 : stream_Messages.f a = some (mesP a) := by
        unfold stream_Messages.f
        exact if_pos ⟨by omega, hA⟩
      have h2 : stream_Messages.f b = some (mesP b) := by
        unfold stream_Messages.f
        exact if_pos ⟨by omega, hB⟩
      have h3 : stream_Messages.f (a ++ b) = some (mesP (a ++ b)) := by
        unfold stream_Messages.f
        refine if_pos ⟨by simp; omega, fun x hx => ?_⟩
        rcases List.mem_append.1 hx with hx | hx
        · exact hA x hx
        · exact hB x hx
      rw [h1, Option.bind_some, h2, Option.bind_some, Option.bind_some, if_pos (by simp; omega), Option.bind_some, List.nil_append, if_pos (by omega), h3, Option.bind_some]
      obtain ⟨qa, _⟩ := mesP_mem a
      obtain ⟨qb, _⟩ := mesP_mem b
      show (if (mesP a).2 = true then shibbolethlaw13_StreamJoins.j1 (99998 + 1) _ _ _ _ _ else shibbolethlaw13_StreamJoins.j1 (99998 + 1) _ _ _ _ _) = _
      cases hx : mesF a with
      | none =>
        have e : mesP a = ([], false) := by unfold mesP; rw [hx]
        rw [e, if_neg (by simp)]
        exact joins_away _ _ _ _ _
      | some x =>
        have e : mesP a = (x, true) := by unfold mesP; rw [hx]
        rw [e] at qa ⊢
        rw [if_pos rfl]
        cases hy : mesF b with
        | none =>
          have e2 : mesP b = ([], false) := by unfold mesP; rw [hy]
          rw [e2]
          exact joins_away _ _ _ _ _
        | some y =>
          have e2 : mesP b = (y, true) := by unfold mesP; rw [hy]
          have e3 : mesP (a ++ b) = (x ++ y, true) := by
            have h := parts_join _ _ ((a ++ b).length + 1) a b x y hx hy (by omega) (by omega) (by simp) hA hB
            unfold mesP mesF
            rw [h]
          rw [e2] at qb ⊢
          rw [e3]
          exact joins_j1 x y (x ++ y) true 99998 (by simp at qa; omega) (by simp at qb; omega) ⟨rfl, by simp⟩
end Go.Proofs.Ytbcleckapamicaa.Pure
