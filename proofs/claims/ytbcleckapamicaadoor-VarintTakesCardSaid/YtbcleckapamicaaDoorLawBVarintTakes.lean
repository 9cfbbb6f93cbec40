-- Written by grow.py (a program of this session).
import Derived.Test.YtbcleckapamicaaDoorLawAVarintTakes
import Derived.Test.YtbcleckapamicaaDoorFctA
import Derived.Test.YtbcleckapamicaaDoorFctB
import Derived.Test.YtbcleckapamicaaDoorFctC
import Derived.Test.YtbcleckapamicaaDoorFctD
import Derived.SevenTiedAt
import Derived.WalkKit
import Derived.ProofKit
import Derived.OpenShut
import Derived.ShutString
import Derived.ChangeOld
import Derived.Below
import Derived.SizedLaws
import Derived.LaidLaws
import Derived.SevenTiedAt
import Derived.ChangeVars
import Derived.JoinedOf
import Derived.JoinedOf
namespace Go.Proofs.YtbcleckapamicaaDoor.varintTakes
open Go.ChangeShapes Go.WideShapes Go.ChangeAt Go.RowKit Go.Proofs.YtbcleckapamicaaDoor.Opn Go.Proofs.YtbcleckapamicaaDoorW.PrintWords Go.Proofs.YtbcleckapamicaaDoor.varintTakesPrm
set_option linter.unusedVariables false
theorem land {a b : Bool} (h : a = true) (k : b = true) : (a && b) = true := by rw [h, k]; rfl
theorem c0 : (Rows.varintTakesRow.wf (OpenSpec.ofChange Rows.varintTakesSpec)) = true := by kernel_rfl
theorem c1 : (laidOutB Tryd.prog) = true := Fct.c1
theorem c2 : (mapsRowed Tryd.prog) = true := Fct.c2
theorem c3 : (Tryd.f7.params.all (Tryd.prog.readableRec ·)) = true := by kernel_rfl
theorem c4 : (namedTie Tryd.prog Rows.varintTakesRow.named Rows.varintTakesSpec.vars) = true := by kernel_rfl
theorem c5 : ((Rows.varintTakesRow.stops == [])) = true := by kernel_rfl
theorem c6 : ((Tryd.prog.stops == [])) = true := Fct.c6
theorem c7 : ((Rows.varintTakesRow.knobs == [])) = true := by kernel_rfl
theorem c8 : ((Tryd.prog.stopKnobs == [])) = true := Fct.c8
theorem c9 : ((Rows.varintTakesRow.inPlace == Tryd.prog.inPlace 7)) = true := by kernel_rfl
theorem c10 : ((Rows.varintTakesRow.unfollowed == Tryd.prog.unfollowed 7)) = true := by kernel_rfl
theorem c11 : ((Rows.varintTakesRow.recurses == Tryd.prog.recurses 7)) = true := by kernel_rfl
theorem c12 : ((Rows.varintTakesRow.named == Tryd.prog.varsNamed 7)) = true := by kernel_rfl
theorem c13 : ((Rows.varintTakesRow.maps == (Tryd.f7.params.toList ++ Rows.varintTakesSpec.plain.varTypes Tryd.prog).any (Tryd.prog.mapsRec ·))) = true := by kernel_rfl
theorem c14 : ((Rows.varintTakesRow.ifaces == (Tryd.f7.params.toList ++ Rows.varintTakesSpec.plain.varTypes Tryd.prog).any (Tryd.prog.ifacesRec ·))) = true := by kernel_rfl
theorem c15 : ((Rows.varintTakesRow.mapsOut == Tryd.prog.mapsAmong Tryd.f7.resultTypes.toList)) = true := by kernel_rfl
theorem c16 : ((Rows.varintTakesRow.loops == (Tryd.f7.params.toList ++ Rows.varintTakesSpec.plain.varTypes Tryd.prog).any (Tryd.prog.loopsFrom ·))) = true := by kernel_rfl
theorem c17 : ((Rows.varintTakesRow.wideKeys == (Tryd.f7.params.toList ++ Rows.varintTakesSpec.plain.varTypes Tryd.prog ++ Tryd.f7.resultTypes.toList).any (Tryd.prog.wideKeysFrom ·))) = true := by kernel_rfl
theorem c18 : (Rows.varintTakesSpec.vars.all (Tryd.prog.varReadable ·)) = true := by kernel_rfl
theorem c19 : (Tryd.f7.resultTypes.all (fun t => Tryd.prog.readableRec t && decide (t < Tryd.prog.types.size))) = true := by kernel_rfl
theorem c20 : ((Rows.varintTakesRow.ifacesOut == Tryd.f7.resultTypes.toList.any (Tryd.prog.ifacesRec ·))) = true := by kernel_rfl
theorem c21 : ((Rows.varintTakesRow.loopsOut == Tryd.f7.resultTypes.toList.any (Tryd.prog.loopsFrom ·))) = true := by kernel_rfl
theorem c22 : ((Rows.varintTakesRow.plainKeys == Tryd.prog.plainKeys)) = true := Fct.c22
theorem c23 : (Rows.varintTakesRow.shortTexts.isNone) = true := by kernel_rfl
theorem c24 : (Tryd.prog.stopsHeard) = true := Fct.c24
theorem c25 : (Tryd.prog.mayEnter) = true := Fct.c25
theorem c26 : ((Rows.varintTakesRow.lifted == Tryd.prog.liftsFinal)) = true := Fct.c26
theorem c27 : ((Tryd.prog.make == some Rows.varintTakesRow.make)) = true := Fct.c27
theorem c29 : ((Rows.varintTakesRow.pinned == Rows.varintTakesRow.pinnedBy)) = true := by kernel_rfl
theorem c30 : ((Rows.varintTakesRow.veiled == (Tryd.f7.params.toList ++ Rows.varintTakesSpec.plain.varTypes Tryd.prog ++ Tryd.f7.resultTypes.toList).any (Tryd.prog.veiledRec ·))) = true := by kernel_rfl
theorem c31 : (Rows.varintTakesRow.veiledFits Tryd.prog Tryd.f7.params.toList (Tryd.f7.params.toList ++ Rows.varintTakesSpec.plain.varTypes Tryd.prog ++ Tryd.f7.resultTypes.toList)) = true := by kernel_rfl
theorem closed : joinedFacts Tryd.prog 7 Tryd.f7 Rows.varintTakesSpec Rows.varintTakesRow = true := by
  unfold joinedFacts
  with_reducible refine (land (land (land (land (land (land (land (land (land (land (land (land (land (land (land (land (land (land (land (land (land (land (land (land (land (land (land (land (land (land (land ?_ ?_) ?_) ?_) ?_) ?_) ?_) ?_) ?_) ?_) ?_) ?_) ?_) ?_) ?_) ?_) ?_) ?_) ?_) ?_) ?_) ?_) ?_) ?_) ?_) ?_) ?_) ?_) ?_) ?_) ?_) ?_)
  · first | with_reducible exact c0 | exact c0
  · first | with_reducible exact c1 | exact c1
  · first | with_reducible exact c2 | exact c2
  · first | with_reducible exact c3 | exact c3
  · first | with_reducible exact c4 | exact c4
  · first | with_reducible exact c5 | exact c5
  · first | with_reducible exact c6 | exact c6
  · first | with_reducible exact c7 | exact c7
  · first | with_reducible exact c8 | exact c8
  · first | with_reducible exact c9 | exact c9
  · first | with_reducible exact c10 | exact c10
  · first | with_reducible exact c11 | exact c11
  · first | with_reducible exact c12 | exact c12
  · first | with_reducible exact c13 | exact c13
  · first | with_reducible exact c14 | exact c14
  · first | with_reducible exact c15 | exact c15
  · first | with_reducible exact c16 | exact c16
  · first | with_reducible exact c17 | exact c17
  · first | with_reducible exact c18 | exact c18
  · first | with_reducible exact c19 | exact c19
  · first | with_reducible exact c20 | exact c20
  · first | with_reducible exact c21 | exact c21
  · first | with_reducible exact c22 | exact c22
  · first | with_reducible exact c23 | exact c23
  · first | with_reducible exact c24 | exact c24
  · first | with_reducible exact c25 | exact c25
  · first | with_reducible exact c26 | exact c26
  · first | with_reducible exact c27 | exact c27
  · kernel_rfl
  · first | with_reducible exact c29 | exact c29
  · first | with_reducible exact c30 | exact c30
  · first | with_reducible exact c31 | exact c31
theorem over : Rows.varintTakesRow.holds Tryd.pinned (OpenSpec.ofChange Rows.varintTakesSpec) :=
  OpenClaim.holds_of_wide 7 Tryd.f7 rfl rfl rfl rfl rfl rfl rfl ⟨rfl, rfl, rfl, rfl, rfl⟩ rfl rfl rfl rfl rfl (by kernel_rfl) Tryd.func7 closed
    (of_decide_eq_true (by kernel_rfl)) (by unfold Func.isWrapper; first | (rw [if_pos (by decide +kernel)]; kernel_rfl) | (rw [if_neg (by decide +kernel)]; exact ⟨rfl, rfl⟩))
    (fun os started H enc _ => lifted os started H enc)
theorem goes : false = Rows.varintTakesRow.goesBy Tryd.prog := by kernel_rfl
end Go.Proofs.YtbcleckapamicaaDoor.varintTakes
