/- StreamBack holds for every input: a message consists of itself; its kind and its body are what they were. No condition. -/
import Derived.Test.YtbcleckapamicaaQSmx2
import Derived.Test.YtbcleckapamicaaMsgP
namespace Go.Proofs.Ytbcleckapamicaa.Pure
open Go.RowKit Go.Proofs.Ytbcleckapamicaa.QSm Go.Proofs.YtbcleckapamicaaW.PrintWords Go.Proofs.YtbcleckapamicaaW.PrintLast Go.Proofs.Ytbcleckapamicaa.MsgP Go.Proofs.Ytbcleckapamicaa.Sg
open Go.Proofs.Ytbcleckapamicaa.Mes (parts mesF parts_nil parts_step)
open Go.Proofs.Ytbcleckapamicaa.Stm (Bytes mlen)
set_option linter.unusedVariables false

theorem StreamBack : shibbolethlaw13_StreamBack.Pure := by
  intro a0 l ha _ _ hw
  have hB := bytes_of hw
  obtain ⟨K, hK⟩ : ∃ K : Nat, 10000 < K := ⟨10001, by omega⟩
  refine ⟨K, ?_⟩
  unfold shibbolethlaw13_StreamBack.f
  by_cases hl : (l.length : Int) > 2100
  · rw [if_pos hl]
  · rw [if_neg hl]
    have h3 : stream_Message.f a0 l = some (msgF a0 l) := by
      unfold stream_Message.f
      exact if_pos (by omega)
    rw [h3, Option.bind_some]
    by_cases hb : a0 < 0 ∨ 255 < a0 ∨ 2000 < l.length
    · rw [msg_nil hb, if_pos (by simp)]
      by_cases h1 : a0 < 0
      · rw [if_pos h1]; rfl
      · rw [if_neg h1]
        by_cases h2 : a0 > 255
        · rw [if_pos h2]; rfl
        · rw [if_neg h2, if_pos (by omega)]; rfl
    · have hm : msgF a0 l = [a0, (l.length : Int) / 65536, (l.length : Int) / 256, (l.length : Int) % 256] ++ l := if_neg hb
      have hlen : (msgF a0 l).length = l.length + 4 := by rw [hm]; simp
      have hBm : Bytes (msgF a0 l) := by
        rw [hm]
        intro x hx
        rcases List.mem_append.1 hx with hx | hx
        · simp at hx
          rcases hx with rfl | rfl | rfl | rfl <;> omega
        · exact hB x hx
      have hml : mlen (msgF a0 l) = (l.length : Int) + 4 := by
        rw [hm]
        unfold mlen
        simp [rd]
        omega
      have hd : (msgF a0 l).drop 4 = l := by rw [hm]; rfl
      have h0 : rd (msgF a0 l) 0 = a0 := by rw [hm]; rfl
      have hF : mesF (msgF a0 l) = some [msgF a0 l] := by
        unfold mesF
        rw [parts_step (by rw [hm]; simp) (by rw [hml, hlen]; omega), hml, List.drop_of_length_le (by rw [hlen]; omega), List.take_of_length_le (by rw [hlen]; omega), parts_nil]
        rfl
      have e : mesP (msgF a0 l) = ([msgF a0 l], true) := by unfold mesP; rw [hF]
      have h1 : stream_Messages.f (msgF a0 l) = some (mesP (msgF a0 l)) := by
        unfold stream_Messages.f
        exact if_pos ⟨by omega, hBm⟩
      have hr : rd_L1 [msgF a0 l] 0 = msgF a0 l := rfl
      have s1 := same_self (msgF a0 l) (by omega) K (by omega)
      have s2 := same_self l (by omega) K (by omega)
      clear h3 hm hml hF hBm hB
      generalize msgF a0 l = m at *
      generalize mesP m = q at *
      subst e
      rw [if_neg (by omega), h1, Option.bind_some]
      dsimp only
      rw [if_pos rfl, if_pos (show (([m] : List (List Int)).length : Int) = 1 from rfl), if_pos (show 0 < (([m] : List (List Int)).length : Int) from by simp), hr, s1, Option.bind_some, if_pos rfl]
      rw [if_pos (show (m.length : Int) = wrap64 ((l.length : Int) + 4) by rw [w_small (by omega) (by omega)]; omega)]
      rw [if_pos (show 0 < (m.length : Int) by omega), h0, if_pos (w_small (by omega) (by omega)), if_pos (show 4 ≤ (m.length : Int) by omega), hd, s2, Option.bind_some, if_pos rfl]
      rfl
end Go.Proofs.Ytbcleckapamicaa.Pure
