/- A part of the proof of the law HeaderBack: LawAHeaderBack. -/
import Derived.Test.YtbcleckapamicaaDoorRows
import Derived.Test.YtbcleckapamicaaDoorZHb08
import Derived.WalkKit
import Derived.ProofKit
import Derived.OpenShut
import Derived.ShutString
import Derived.ChangeOld
import Derived.Below
import Derived.SizedLaws
import Derived.LaidLaws
import Derived.SevenTiedAt
import Derived.ChangeVars
import Derived.JoinedOf
namespace Go.Proofs.YtbcleckapamicaaDoor.headerBack
open Go.ChangeShapes Go.WideShapes Go.ChangeAt Go.RowKit Go.Proofs.YtbcleckapamicaaDoor.Opn Go.Proofs.YtbcleckapamicaaDoorW.PrintWords Go.Proofs.YtbcleckapamicaaDoor.headerBackPrm
set_option linter.unusedVariables false
theorem own : ownKnob Tryd.prog.godebug = none := by kernel_rfl
theorem laidOut : laidOutB Tryd.prog = true := by kernel_rfl
set_option maxRecDepth 100000 in
theorem lifted (os : Os) (started : os.Started) (H : Type) (enc : TypeId × Value → H) :
    ReturnsInHanded {} Tryd.checked os 12 .any (fun w args => (Rows.headerBackSpec.pre enc Tryd.prog Tryd.f12 [] false w args ∧ laidMet Tryd.prog Rows.headerBackRow.laid w) ∧ sizedMet enc Tryd.prog Tryd.f12 (OpenSpec.ofChange Rows.headerBackSpec) false w args)
      (Rows.headerBackSpec.post enc Tryd.prog Tryd.f12 false true false false) := by
  refine returnsInHanded_of_change_and (C := Tryd.checked) (X := fun w _ => laidMet Tryd.prog Rows.headerBackRow.laid w) (fun _ _ _ hh h => h.of_heap hh) own started (by kernel_rfl) Tryd.func12
    (ChangeSpec.witness_at (enc := enc) (C := Tryd.checked) (os := os) (X := fun w _ => laidMet Tryd.prog Rows.headerBackRow.laid w) false (Tab.laidWorld os) #[.agg #[.int .i64 0, .int .i64 0, .slice none 0 0, .slice none 0 0, .slice none 0 0, .int .i64 0, .int .i64 0, .int .i64 0], .slice none 0 0, .slice none 0 0] 8 rfl (by kernel_rfl) (by kernel_rfl) (by kernel_rfl) (by kernel_rfl) (by kernel_rfl) (Tab.laidWorld_met os _)) ?_
  intro W base args ds gs before hval0 hW _ _ hL _
  have hval : ∀ (j : Nat) t v, Tryd.f12.params[j]? = some t → args[j]? = some v → Value.okWide Tryd.prog W .any base t v := hval0
  have hW' := hW
  obtain ⟨p, q, hA0, hV, rfl, hfz, hnd⟩ := hW
  have hA : DataW.TrodAll enc Tryd.prog W 0 (fun _ => true) true Tryd.f12.params.toList args.toList ds p := hA0
  rw [Tryd.params12] at hA hval
  obtain ⟨v0, vs0, d0, ds0, p0, q0, hargs, rfl, rfl, h0, r0⟩ := trodAll_cons hA
  obtain ⟨v1, vs1, d1, ds1, p1, q1, rfl, rfl, rfl, h1, r1⟩ := trodAll_cons r0
  obtain ⟨v2, vs2, d2, ds2, p2, q2, rfl, rfl, rfl, h2, r2⟩ := trodAll_cons r1
  obtain ⟨rfl, rfl, rfl⟩ := trodAll_nil r2
  obtain rfl : args = #[v0, v1, v2] := by cases args; simp_all
  obtain ⟨rfl, rfl⟩ := trodVars_none hV
  have k0 := h0
  have lt0 : ∀ x ∈ p0, x.block < W.heap.size := by obtain ⟨m, hm⟩ := k0; exact DataW.trod_lt m _ _ _ hm
  obtain ⟨cs0, x0, rfl, hK0, o0⟩ := opens_okT44.aggValue Tryd.underlying44 (hval 0 44 v0 rfl rfl) h0
  obtain ⟨_, _, hcs0, rfl, ⟨_, _, rfl, rfl, ⟨_, _, rfl, ⟨A0_0, c0_0, rfl, l0_0, g0_0⟩, ⟨_, _, rfl, ⟨A0_1, c0_1, rfl, l0_1, g0_1⟩, ⟨_, _, rfl, ⟨A0_2, c0_2, rfl, l0_2, g0_2⟩, ⟨_, _, rfl, rfl, ⟨_, _, rfl, rfl, rfl⟩⟩⟩⟩⟩⟩⟩ := hK0
  obtain rfl : cs0 = #[.int .i64 (x0.1), .int .i64 (x0.2.1), .slice A0_0 (x0.2.2.1).length c0_0, .slice A0_1 (x0.2.2.2.1).length c0_1, .slice A0_2 (x0.2.2.2.2.1).length c0_2, .int .i64 (x0.2.2.2.2.2.1), .int .i64 (x0.2.2.2.2.2.2.1), .int .i64 (x0.2.2.2.2.2.2.2)] := by apply Array.toList_inj.1; rw [hcs0]; rfl
  have k1 := h1
  have lt1 : ∀ x ∈ p1, x.block < W.heap.size := by obtain ⟨m, hm⟩ := k1; exact DataW.trod_lt m _ _ _ hm
  obtain ⟨a1, len1, cap1, rfl⟩ := okWide_slice Tryd.underlying22 (hval 1 22 v1 rfl rfl)
  obtain ⟨x1, rfl, hc1, hr1, o1⟩ := opens_ok22.sliceValue h1
  have k2 := h2
  have lt2 : ∀ x ∈ p2, x.block < W.heap.size := by obtain ⟨m, hm⟩ := k2; exact DataW.trod_lt m _ _ _ hm
  obtain ⟨a2, len2, cap2, rfl⟩ := okWide_slice Tryd.underlying22 (hval 2 22 v2 rfl rfl)
  obtain ⟨x2, rfl, hc2, hr2, o2⟩ := opens_ok22.sliceValue h2
  clear hA0 hval0
  have h := Pure.HeaderBack x0 x1 x2 o0 o1 o2
  have ht := Tab.of_laid hL
  refine (QHb.shibbolethlaw05_HeaderBack.calls (x0.1) (x0.2.1) _ _ (x0.2.2.1) _ _ (x0.2.2.2.1) _ _ (x0.2.2.2.2.1) (x0.2.2.2.2.2.1) (x0.2.2.2.2.2.2.1) (x0.2.2.2.2.2.2.2) _ _ x1 _ _ x2 true W g0_0 l0_0 g0_1 l0_1 g0_2 l0_2 hr1 hc1 hr2 hc2 ht h).mono fun e W' ⟨he, hd⟩ => ?_
  subst he
  have bel : Below W.heap.size W W' := hd
  exact ⟨_, rfl, _, _, _, [], _, [], hW', trodAll_mk1 (shut_bool Tryd.underlying4 _), (trodAll_cons_mk (Below.trod laidOut (by kernel_rfl) (of_decide_eq_true (by kernel_rfl)) k0 bel lt0) (trodAll_cons_mk (Below.trod laidOut (by kernel_rfl) (of_decide_eq_true (by kernel_rfl)) k1 bel lt1) (trodAll_cons_mk (Below.trod laidOut (by kernel_rfl) (of_decide_eq_true (by kernel_rfl)) k2 bel lt2) trodAll_mk0))), rfl, bel.frame _, fun h => by cases h⟩
end Go.Proofs.YtbcleckapamicaaDoor.headerBack
