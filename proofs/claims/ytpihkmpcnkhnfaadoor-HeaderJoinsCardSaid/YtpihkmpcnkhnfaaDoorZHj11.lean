/- A part of the proof of the law HeaderJoins: LawAHeaderJoins. -/
import Derived.Test.YtpihkmpcnkhnfaaDoorRows
import Derived.Test.YtpihkmpcnkhnfaaDoorZHj09
import Derived.Test.YtpihkmpcnkhnfaaDoorZHj10
import Derived.WalkKit
import Derived.ProofKit
import Derived.OpenShut
import Derived.ShutString
import Derived.ChangeOld
import Derived.Below
import Derived.SizedLaws
import Derived.LaidLaws
import Derived.SevenTiedAt
import Derived.ChangeVars
import Derived.JoinedOf
namespace Go.Proofs.YtpihkmpcnkhnfaaDoor.headerJoins
open Go.ChangeShapes Go.WideShapes Go.ChangeAt Go.RowKit Go.Proofs.YtpihkmpcnkhnfaaDoor.Opn Go.Proofs.YtpihkmpcnkhnfaaDoorW.PrintWords Go.Proofs.YtpihkmpcnkhnfaaDoor.headerJoinsPrm
set_option linter.unusedVariables false
theorem own : ownKnob Tryd.prog.godebug = none := by kernel_rfl
theorem laidOut : laidOutB Tryd.prog = true := by kernel_rfl
set_option maxRecDepth 100000 in
theorem lifted (os : Os) (started : os.Started) (H : Type) (enc : TypeId × Value → H) :
    ReturnsInHanded {} Tryd.checked os 4 .any (fun w args => (Rows.headerJoinsSpec.pre enc Tryd.prog Tryd.f4 [] false w args ∧ laidMet Tryd.prog Rows.headerJoinsRow.laid w) ∧ sizedMet enc Tryd.prog Tryd.f4 (OpenSpec.ofChange Rows.headerJoinsSpec) false w args)
      (Rows.headerJoinsSpec.post enc Tryd.prog Tryd.f4 false true false false) := by
  refine returnsInHanded_of_change_and (C := Tryd.checked) (X := fun w _ => laidMet Tryd.prog Rows.headerJoinsRow.laid w) (fun _ _ _ hh h => h.of_heap hh) own started (by kernel_rfl) Tryd.func4
    (ChangeSpec.witness_at (enc := enc) (C := Tryd.checked) (os := os) (X := fun w _ => laidMet Tryd.prog Rows.headerJoinsRow.laid w) false (Tab.laidWorld os) #[.agg #[.int .i64 0, .int .i64 0, .slice none 0 0, .slice none 0 0, .slice none 0 0, .int .i64 0, .int .i64 0, .int .i64 0, .int .i64 0, .int .i64 0, .slice none 0 0, .slice none 0 0, .slice none 0 0, .int .i64 0, .int .i64 0, .int .i64 0, .int .i64 0, .int .i64 0, .slice none 0 0, .slice none 0 0, .slice none 0 0, .int .i64 0, .int .i64 0, .int .i64 0, .slice none 0 0]] 8 rfl (by kernel_rfl) (by kernel_rfl) (by kernel_rfl) (by kernel_rfl) (by kernel_rfl) (Tab.laidWorld_met os _)) ?_
  intro W base args ds gs before hval0 hW _ _ hL _
  have hval : ∀ (j : Nat) t v, Tryd.f4.params[j]? = some t → args[j]? = some v → Value.okWide Tryd.prog W .any base t v := hval0
  have hW' := hW
  obtain ⟨p, q, hA0, hV, rfl, hfz, hnd⟩ := hW
  have hA : DataW.TrodAll enc Tryd.prog W 0 (fun _ => true) true Tryd.f4.params.toList args.toList ds p := hA0
  rw [Tryd.params4] at hA hval
  obtain ⟨v0, vs0, d0, ds0, p0, q0, hargs, rfl, rfl, h0, r0⟩ := trodAll_cons hA
  obtain ⟨rfl, rfl, rfl⟩ := trodAll_nil r0
  obtain rfl : args = #[v0] := by cases args; simp_all
  obtain ⟨rfl, rfl⟩ := trodVars_none hV
  have k0 := h0
  have lt0 : ∀ x ∈ p0, x.block < W.heap.size := by obtain ⟨m, hm⟩ := k0; exact DataW.trod_lt m _ _ _ hm
  obtain ⟨cs0, x0, rfl, hK0, o0⟩ := opens_okT39.aggValue Tryd.underlying39 (hval 0 39 v0 rfl rfl) h0
  obtain ⟨_, _, hcs0, ⟨_, _, rfl, rfl, ⟨_, _, rfl, rfl, ⟨_, _, rfl, ⟨A0_0, c0_0, rfl, l0_0, g0_0⟩, ⟨_, _, rfl, ⟨A0_1, c0_1, rfl, l0_1, g0_1⟩, ⟨_, _, rfl, ⟨A0_2, c0_2, rfl, l0_2, g0_2⟩, ⟨_, _, rfl, rfl, ⟨_, _, rfl, rfl, rfl⟩⟩⟩⟩⟩⟩⟩, ⟨_, _, rfl, ⟨_, _, rfl, rfl, ⟨_, _, rfl, rfl, ⟨_, _, rfl, ⟨A0_3, c0_3, rfl, l0_3, g0_3⟩, ⟨_, _, rfl, ⟨A0_4, c0_4, rfl, l0_4, g0_4⟩, ⟨_, _, rfl, ⟨A0_5, c0_5, rfl, l0_5, g0_5⟩, ⟨_, _, rfl, rfl, ⟨_, _, rfl, rfl, rfl⟩⟩⟩⟩⟩⟩⟩, ⟨_, _, rfl, ⟨_, _, rfl, rfl, ⟨_, _, rfl, rfl, ⟨_, _, rfl, ⟨A0_6, c0_6, rfl, l0_6, g0_6⟩, ⟨_, _, rfl, ⟨A0_7, c0_7, rfl, l0_7, g0_7⟩, ⟨_, _, rfl, ⟨A0_8, c0_8, rfl, l0_8, g0_8⟩, ⟨_, _, rfl, rfl, ⟨_, _, rfl, rfl, rfl⟩⟩⟩⟩⟩⟩⟩, ⟨A0_9, c0_9, rfl, l0_9, g0_9⟩⟩⟩⟩ := hK0
  obtain rfl : cs0 = #[.int .i64 (x0.1.1), .int .i64 (x0.1.2.1), .slice A0_0 (x0.1.2.2.1).length c0_0, .slice A0_1 (x0.1.2.2.2.1).length c0_1, .slice A0_2 (x0.1.2.2.2.2.1).length c0_2, .int .i64 (x0.1.2.2.2.2.2.1), .int .i64 (x0.1.2.2.2.2.2.2.1), .int .i64 (x0.1.2.2.2.2.2.2.2), .int .i64 (x0.2.1.1), .int .i64 (x0.2.1.2.1), .slice A0_3 (x0.2.1.2.2.1).length c0_3, .slice A0_4 (x0.2.1.2.2.2.1).length c0_4, .slice A0_5 (x0.2.1.2.2.2.2.1).length c0_5, .int .i64 (x0.2.1.2.2.2.2.2.1), .int .i64 (x0.2.1.2.2.2.2.2.2.1), .int .i64 (x0.2.1.2.2.2.2.2.2.2), .int .i64 (x0.2.2.1.1), .int .i64 (x0.2.2.1.2.1), .slice A0_6 (x0.2.2.1.2.2.1).length c0_6, .slice A0_7 (x0.2.2.1.2.2.2.1).length c0_7, .slice A0_8 (x0.2.2.1.2.2.2.2.1).length c0_8, .int .i64 (x0.2.2.1.2.2.2.2.2.1), .int .i64 (x0.2.2.1.2.2.2.2.2.2.1), .int .i64 (x0.2.2.1.2.2.2.2.2.2.2), .slice A0_9 (x0.2.2.2).length c0_9] := by apply Array.toList_inj.1; rw [hcs0]; rfl
  clear hA0 hval0
  have h := Pure.HeaderJoins x0 o0
  have ht := Tab.of_laid hL
  refine (QHj.shibbolethlaw05_HeaderJoins.calls (x0.1.1) (x0.1.2.1) _ _ (x0.1.2.2.1) _ _ (x0.1.2.2.2.1) _ _ (x0.1.2.2.2.2.1) (x0.1.2.2.2.2.2.1) (x0.1.2.2.2.2.2.2.1) (x0.1.2.2.2.2.2.2.2) (x0.2.1.1) (x0.2.1.2.1) _ _ (x0.2.1.2.2.1) _ _ (x0.2.1.2.2.2.1) _ _ (x0.2.1.2.2.2.2.1) (x0.2.1.2.2.2.2.2.1) (x0.2.1.2.2.2.2.2.2.1) (x0.2.1.2.2.2.2.2.2.2) (x0.2.2.1.1) (x0.2.2.1.2.1) _ _ (x0.2.2.1.2.2.1) _ _ (x0.2.2.1.2.2.2.1) _ _ (x0.2.2.1.2.2.2.2.1) (x0.2.2.1.2.2.2.2.2.1) (x0.2.2.1.2.2.2.2.2.2.1) (x0.2.2.1.2.2.2.2.2.2.2) _ _ (x0.2.2.2) true W g0_0 l0_0 g0_1 l0_1 g0_2 l0_2 g0_3 l0_3 g0_4 l0_4 g0_5 l0_5 g0_6 l0_6 g0_7 l0_7 g0_8 l0_8 g0_9 l0_9 ht h).mono fun e W' ⟨he, hd⟩ => ?_
  subst he
  have bel : Below W.heap.size W W' := hd
  exact ⟨_, rfl, _, _, _, [], _, [], hW', trodAll_mk1 (shut_bool Tryd.underlying4 _), (trodAll_cons_mk (Below.trod laidOut (by kernel_rfl) (of_decide_eq_true (by kernel_rfl)) k0 bel lt0) trodAll_mk0), rfl, bel.frame _, fun h => by cases h⟩
end Go.Proofs.YtpihkmpcnkhnfaaDoor.headerJoins
