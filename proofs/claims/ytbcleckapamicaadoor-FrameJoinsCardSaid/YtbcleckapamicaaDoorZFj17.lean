/- A part of the proof of the law FrameJoins: LawBFrameJoins. -/
import Derived.Test.YtbcleckapamicaaDoorZFj12
import Derived.Test.YtbcleckapamicaaDoorZFj13
import Derived.Test.YtbcleckapamicaaDoorZFj14
import Derived.Test.YtbcleckapamicaaDoorZFj15
import Derived.Test.YtbcleckapamicaaDoorZFj16
import Derived.SevenTiedAt
import Derived.WalkKit
import Derived.ProofKit
import Derived.OpenShut
import Derived.ShutString
import Derived.ChangeOld
import Derived.Below
import Derived.SizedLaws
import Derived.LaidLaws
import Derived.ChangeVars
import Derived.JoinedOf
namespace Go.Proofs.YtbcleckapamicaaDoor.frameJoins
open Go.ChangeShapes Go.WideShapes Go.ChangeAt Go.RowKit Go.Proofs.YtbcleckapamicaaDoor.Opn Go.Proofs.YtbcleckapamicaaDoorW.PrintWords Go.Proofs.YtbcleckapamicaaDoor.frameJoinsPrm
set_option linter.unusedVariables false
theorem land {a b : Bool} (h : a = true) (k : b = true) : (a && b) = true := by rw [h, k]; rfl
theorem c0 : (Rows.frameJoinsRow.wf (OpenSpec.ofChange Rows.frameJoinsSpec)) = true := by kernel_rfl
theorem c1 : (laidOutB Tryd.prog) = true := Fct.c1
theorem c2 : (mapsRowed Tryd.prog) = true := Fct.c2
theorem c3 : (Tryd.f19.params.all (Tryd.prog.readableRec ·)) = true := by kernel_rfl
theorem c4 : (namedTie Tryd.prog Rows.frameJoinsRow.named Rows.frameJoinsSpec.vars) = true := by kernel_rfl
theorem c5 : ((Rows.frameJoinsRow.stops == [])) = true := by kernel_rfl
theorem c6 : ((Tryd.prog.stops == [])) = true := Fct.c6
theorem c7 : ((Rows.frameJoinsRow.knobs == [])) = true := by kernel_rfl
theorem c8 : ((Tryd.prog.stopKnobs == [])) = true := Fct.c8
theorem c9 : ((Rows.frameJoinsRow.inPlace == Tryd.prog.inPlace 19)) = true := by kernel_rfl
theorem c10 : ((Rows.frameJoinsRow.unfollowed == Tryd.prog.unfollowed 19)) = true := by kernel_rfl
theorem c11 : ((Rows.frameJoinsRow.recurses == Tryd.prog.recurses 19)) = true := by kernel_rfl
theorem c12 : ((Rows.frameJoinsRow.named == Tryd.prog.varsNamed 19)) = true := by kernel_rfl
theorem c13 : ((Rows.frameJoinsRow.maps == (Tryd.f19.params.toList ++ Rows.frameJoinsSpec.plain.varTypes Tryd.prog).any (Tryd.prog.mapsRec ·))) = true := by kernel_rfl
theorem c14 : ((Rows.frameJoinsRow.ifaces == (Tryd.f19.params.toList ++ Rows.frameJoinsSpec.plain.varTypes Tryd.prog).any (Tryd.prog.ifacesRec ·))) = true := by kernel_rfl
theorem c15 : ((Rows.frameJoinsRow.mapsOut == Tryd.prog.mapsAmong Tryd.f19.resultTypes.toList)) = true := by kernel_rfl
theorem c16 : ((Rows.frameJoinsRow.loops == (Tryd.f19.params.toList ++ Rows.frameJoinsSpec.plain.varTypes Tryd.prog).any (Tryd.prog.loopsFrom ·))) = true := by kernel_rfl
theorem c17 : ((Rows.frameJoinsRow.wideKeys == (Tryd.f19.params.toList ++ Rows.frameJoinsSpec.plain.varTypes Tryd.prog ++ Tryd.f19.resultTypes.toList).any (Tryd.prog.wideKeysFrom ·))) = true := by kernel_rfl
theorem c18 : (Rows.frameJoinsSpec.vars.all (Tryd.prog.varReadable ·)) = true := by kernel_rfl
theorem c19 : (Tryd.f19.resultTypes.all (fun t => Tryd.prog.readableRec t && decide (t < Tryd.prog.types.size))) = true := by kernel_rfl
theorem c20 : ((Rows.frameJoinsRow.ifacesOut == Tryd.f19.resultTypes.toList.any (Tryd.prog.ifacesRec ·))) = true := by kernel_rfl
theorem c21 : ((Rows.frameJoinsRow.loopsOut == Tryd.f19.resultTypes.toList.any (Tryd.prog.loopsFrom ·))) = true := by kernel_rfl
theorem c22 : ((Rows.frameJoinsRow.plainKeys == Tryd.prog.plainKeys)) = true := Fct.c22
theorem c23 : (Rows.frameJoinsRow.shortTexts.isNone) = true := by kernel_rfl
theorem c24 : (Tryd.prog.stopsHeard) = true := Fct.c24
theorem c25 : (Tryd.prog.mayEnter) = true := Fct.c25
theorem c26 : ((Rows.frameJoinsRow.lifted == Tryd.prog.liftsFinal)) = true := Fct.c26
theorem c27 : ((Tryd.prog.make == some Rows.frameJoinsRow.make)) = true := Fct.c27
theorem c29 : ((Rows.frameJoinsRow.pinned == Rows.frameJoinsRow.pinnedBy)) = true := by kernel_rfl
theorem c30 : ((Rows.frameJoinsRow.veiled == (Tryd.f19.params.toList ++ Rows.frameJoinsSpec.plain.varTypes Tryd.prog ++ Tryd.f19.resultTypes.toList).any (Tryd.prog.veiledRec ·))) = true := by kernel_rfl
theorem c31 : (Rows.frameJoinsRow.veiledFits Tryd.prog Tryd.f19.params.toList (Tryd.f19.params.toList ++ Rows.frameJoinsSpec.plain.varTypes Tryd.prog ++ Tryd.f19.resultTypes.toList)) = true := by kernel_rfl
theorem closed : joinedFacts Tryd.prog 19 Tryd.f19 Rows.frameJoinsSpec Rows.frameJoinsRow = true := by
  unfold joinedFacts
  with_reducible refine (land (land (land (land (land (land (land (land (land (land (land (land (land (land (land (land (land (land (land (land (land (land (land (land (land (land (land (land (land (land (land ?_ ?_) ?_) ?_) ?_) ?_) ?_) ?_) ?_) ?_) ?_) ?_) ?_) ?_) ?_) ?_) ?_) ?_) ?_) ?_) ?_) ?_) ?_) ?_) ?_) ?_) ?_) ?_) ?_) ?_) ?_) ?_)
  · first | with_reducible exact c0 | exact c0
  · first | with_reducible exact c1 | exact c1
  · first | with_reducible exact c2 | exact c2
  · first | with_reducible exact c3 | exact c3
  · first | with_reducible exact c4 | exact c4
  · first | with_reducible exact c5 | exact c5
  · first | with_reducible exact c6 | exact c6
  · first | with_reducible exact c7 | exact c7
  · first | with_reducible exact c8 | exact c8
  · first | with_reducible exact c9 | exact c9
  · first | with_reducible exact c10 | exact c10
  · first | with_reducible exact c11 | exact c11
  · first | with_reducible exact c12 | exact c12
  · first | with_reducible exact c13 | exact c13
  · first | with_reducible exact c14 | exact c14
  · first | with_reducible exact c15 | exact c15
  · first | with_reducible exact c16 | exact c16
  · first | with_reducible exact c17 | exact c17
  · first | with_reducible exact c18 | exact c18
  · first | with_reducible exact c19 | exact c19
  · first | with_reducible exact c20 | exact c20
  · first | with_reducible exact c21 | exact c21
  · first | with_reducible exact c22 | exact c22
  · first | with_reducible exact c23 | exact c23
  · first | with_reducible exact c24 | exact c24
  · first | with_reducible exact c25 | exact c25
  · first | with_reducible exact c26 | exact c26
  · first | with_reducible exact c27 | exact c27
  · kernel_rfl
  · first | with_reducible exact c29 | exact c29
  · first | with_reducible exact c30 | exact c30
  · first | with_reducible exact c31 | exact c31
theorem over : Rows.frameJoinsRow.holds Tryd.pinned (OpenSpec.ofChange Rows.frameJoinsSpec) :=
  OpenClaim.holds_of_wide 19 Tryd.f19 rfl rfl rfl rfl rfl rfl rfl ⟨rfl, rfl, rfl, rfl, rfl⟩ rfl rfl rfl rfl rfl (by kernel_rfl) Tryd.func19 closed
    (of_decide_eq_true (by kernel_rfl)) (by unfold Func.isWrapper; first | (rw [if_pos (by decide +kernel)]; kernel_rfl) | (rw [if_neg (by decide +kernel)]; exact ⟨rfl, rfl⟩))
    (fun os started H enc _ => lifted os started H enc)
theorem goes : false = Rows.frameJoinsRow.goesBy Tryd.prog := by kernel_rfl
end Go.Proofs.YtbcleckapamicaaDoor.frameJoins
