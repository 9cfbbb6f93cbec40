-- Written by grow.py (a program of this session).
import Derived.Test.YtbcleckapamicaaRows
import Derived.Test.YtbcleckapamicaaQChx2
import Derived.Test.YtbcleckapamicaaPrmChooseVerifies
import Derived.Test.YtbcleckapamicaaPureChooseVerifies
import Derived.WalkKit
import Derived.ProofKit
import Derived.OpenShut
import Derived.ShutString
import Derived.ChangeOld
import Derived.Below
import Derived.SizedLaws
namespace Go.Proofs.Ytbcleckapamicaa.chooseVerifies
open Go.ChangeShapes Go.WideShapes Go.ChangeAt Go.RowKit Go.Proofs.Ytbcleckapamicaa.Opn Go.Proofs.YtbcleckapamicaaW.PrintWords Go.Proofs.Ytbcleckapamicaa.chooseVerifiesPrm
set_option linter.unusedVariables false
theorem own : ownKnob Try.prog.godebug = none := by kernel_rfl
theorem laidOut : laidOutB Try.prog = true := by kernel_rfl
set_option maxRecDepth 100000 in
theorem lifted (os : Os) (started : os.Started) (H : Type) (enc : TypeId × Value → H) :
    ReturnsInHanded {} Try.checked os 5 .any (Rows.chooseVerifiesSpec.pre6 enc Try.prog Try.f5 Rows.chooseVerifiesRow.domain false) (Rows.chooseVerifiesSpec.post enc Try.prog Try.f5 false true false false) := by
  refine returnsInHanded_of_change_sized (C := Try.checked) own started (by kernel_rfl) Try.func5
    (ChangeSpec.witness6 (enc := enc) (C := Try.checked) false ⟨#[], #[.agg #[.slice none 0 0, .slice none 0 0, .slice none 0 0, .int .i64 0]], []⟩ 8 (by kernel_rfl) (by kernel_rfl) (by kernel_rfl) (by kernel_rfl)) ?_
  intro W base args ds gs before hval0 hW hcnd hsz0 _
  have hval : ∀ (j : Nat) t v, Try.f5.params[j]? = some t → args[j]? = some v → Value.okWide Try.prog W .any base t v := hval0
  have hW' := hW
  obtain ⟨p, q, hA0, hV, rfl, hfz, hnd⟩ := hW
  have hA : DataW.TrodAll enc Try.prog W 0 (fun _ => true) true Try.f5.params.toList args.toList ds p := hA0
  rw [Try.params5] at hA hval
  obtain ⟨v0, vs0, d0, ds0, p0, q0, hargs, rfl, rfl, h0, r0⟩ := trodAll_cons hA
  obtain ⟨rfl, rfl, rfl⟩ := trodAll_nil r0
  obtain rfl : args = #[v0] := by cases args; simp_all
  obtain ⟨rfl, rfl⟩ := trodVars_none hV
  have k0 := h0
  have lt0 : ∀ x ∈ p0, x.block < W.heap.size := by obtain ⟨m, hm⟩ := k0; exact DataW.trod_lt m _ _ _ hm
  obtain ⟨cs0, x0, rfl, hK0, o0⟩ := opens_okT36.aggValue Try.underlying36 (hval 0 36 v0 rfl rfl) h0
  obtain ⟨_, _, hcs0, ⟨A0_0, c0_0, rfl, l0_0, g0_0⟩, ⟨_, _, rfl, ⟨A0_1, c0_1, rfl, l0_1, g0_1⟩, ⟨_, _, rfl, ⟨A0_2, c0_2, rfl, l0_2, g0_2⟩, rfl⟩⟩⟩ := hK0
  obtain rfl : cs0 = #[.slice A0_0 (x0.1).length c0_0, .slice A0_1 (x0.2.1).length c0_1, .slice A0_2 (x0.2.2.1).length c0_2, .int .i64 (x0.2.2.2)] := by apply Array.toList_inj.1; rw [hcs0]; rfl
  clear hA0 hval0
  obtain ⟨k, h⟩ := Pure.ChooseVerifies x0 o0
  refine (QCh.shibbolethlaw19_ChooseVerifies.calls k _ _ (x0.1) _ _ (x0.2.1) _ _ (x0.2.2.1) (x0.2.2.2) true W g0_0 l0_0 g0_1 l0_1 g0_2 l0_2 h).mono fun e W' ⟨he, hd⟩ => ?_
  subst he
  have bel : Below W.heap.size W W' := hd
  exact ⟨_, rfl, _, _, _, [], _, [], hW', trodAll_mk1 (shut_bool Try.underlying4 _), (trodAll_cons_mk (Below.trod laidOut (by kernel_rfl) (of_decide_eq_true (by kernel_rfl)) k0 bel lt0) trodAll_mk0), rfl, bel.frame _, fun h => by cases h⟩
theorem over : Rows.chooseVerifiesRow.holds Try.pinned (OpenSpec.ofChange Rows.chooseVerifiesSpec) :=
  OpenClaim.holds_of_wide 5 Try.f5 rfl rfl rfl rfl rfl rfl rfl ⟨rfl, rfl, rfl, rfl, rfl⟩ rfl rfl rfl rfl rfl (by kernel_rfl) Try.func5 (by kernel_rfl)
    (of_decide_eq_true (by kernel_rfl)) (by unfold Func.isWrapper; first | (rw [if_pos (by decide +kernel)]; kernel_rfl) | (rw [if_neg (by decide +kernel)]; exact ⟨rfl, rfl⟩))
    (fun os started H enc _ => lifted os started H enc)
theorem proved : Rows.ChooseVerifiesSaid := over
#print axioms proved
end Go.Proofs.Ytbcleckapamicaa.chooseVerifies
namespace Go.Proofs.Ytbcleckapamicaa
/-- The row, under a short name, for the claim. -/
theorem chooseVerifies_holds : Rows.ChooseVerifiesSaid := chooseVerifies.proved
end Go.Proofs.Ytbcleckapamicaa
