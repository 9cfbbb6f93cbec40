/- A part of the proof of the law HeaderJoins: LawBHeaderJoins. -/
import Derived.Test.YtpihkmpcnkhnfaaDoorZHj11
import Derived.Test.YtpihkmpcnkhnfaaDoorZHj12
import Derived.Test.YtpihkmpcnkhnfaaDoorZHj13
import Derived.Test.YtpihkmpcnkhnfaaDoorZHj14
import Derived.Test.YtpihkmpcnkhnfaaDoorZHj15
import Derived.SevenTiedAt
import Derived.WalkKit
import Derived.ProofKit
import Derived.OpenShut
import Derived.ShutString
import Derived.ChangeOld
import Derived.Below
import Derived.SizedLaws
import Derived.LaidLaws
import Derived.ChangeVars
import Derived.JoinedOf
namespace Go.Proofs.YtpihkmpcnkhnfaaDoor.headerJoins
open Go.ChangeShapes Go.WideShapes Go.ChangeAt Go.RowKit Go.Proofs.YtpihkmpcnkhnfaaDoor.Opn Go.Proofs.YtpihkmpcnkhnfaaDoorW.PrintWords Go.Proofs.YtpihkmpcnkhnfaaDoor.headerJoinsPrm
set_option linter.unusedVariables false
theorem land {a b : Bool} (h : a = true) (k : b = true) : (a && b) = true := by rw [h, k]; rfl
theorem c0 : (Rows.headerJoinsRow.wf (OpenSpec.ofChange Rows.headerJoinsSpec)) = true := by kernel_rfl
theorem c1 : (laidOutB Tryd.prog) = true := Fct.c1
theorem c2 : (mapsRowed Tryd.prog) = true := Fct.c2
theorem c3 : (Tryd.f4.params.all (Tryd.prog.readableRec ·)) = true := by kernel_rfl
theorem c4 : (namedTie Tryd.prog Rows.headerJoinsRow.named Rows.headerJoinsSpec.vars) = true := by kernel_rfl
theorem c5 : ((Rows.headerJoinsRow.stops == [])) = true := by kernel_rfl
theorem c6 : ((Tryd.prog.stops == [])) = true := Fct.c6
theorem c7 : ((Rows.headerJoinsRow.knobs == [])) = true := by kernel_rfl
theorem c8 : ((Tryd.prog.stopKnobs == [])) = true := Fct.c8
theorem c9 : ((Rows.headerJoinsRow.inPlace == Tryd.prog.inPlace 4)) = true := by kernel_rfl
theorem c10 : ((Rows.headerJoinsRow.unfollowed == Tryd.prog.unfollowed 4)) = true := by kernel_rfl
theorem c11 : ((Rows.headerJoinsRow.recurses == Tryd.prog.recurses 4)) = true := by kernel_rfl
theorem c12 : ((Rows.headerJoinsRow.named == Tryd.prog.varsNamed 4)) = true := by kernel_rfl
theorem c13 : ((Rows.headerJoinsRow.maps == (Tryd.f4.params.toList ++ Rows.headerJoinsSpec.plain.varTypes Tryd.prog).any (Tryd.prog.mapsRec ·))) = true := by kernel_rfl
theorem c14 : ((Rows.headerJoinsRow.ifaces == (Tryd.f4.params.toList ++ Rows.headerJoinsSpec.plain.varTypes Tryd.prog).any (Tryd.prog.ifacesRec ·))) = true := by kernel_rfl
theorem c15 : ((Rows.headerJoinsRow.mapsOut == Tryd.prog.mapsAmong Tryd.f4.resultTypes.toList)) = true := by kernel_rfl
theorem c16 : ((Rows.headerJoinsRow.loops == (Tryd.f4.params.toList ++ Rows.headerJoinsSpec.plain.varTypes Tryd.prog).any (Tryd.prog.loopsFrom ·))) = true := by kernel_rfl
theorem c17 : ((Rows.headerJoinsRow.wideKeys == (Tryd.f4.params.toList ++ Rows.headerJoinsSpec.plain.varTypes Tryd.prog ++ Tryd.f4.resultTypes.toList).any (Tryd.prog.wideKeysFrom ·))) = true := by kernel_rfl
theorem c18 : (Rows.headerJoinsSpec.vars.all (Tryd.prog.varReadable ·)) = true := by kernel_rfl
theorem c19 : (Tryd.f4.resultTypes.all (fun t => Tryd.prog.readableRec t && decide (t < Tryd.prog.types.size))) = true := by kernel_rfl
theorem c20 : ((Rows.headerJoinsRow.ifacesOut == Tryd.f4.resultTypes.toList.any (Tryd.prog.ifacesRec ·))) = true := by kernel_rfl
theorem c21 : ((Rows.headerJoinsRow.loopsOut == Tryd.f4.resultTypes.toList.any (Tryd.prog.loopsFrom ·))) = true := by kernel_rfl
theorem c22 : ((Rows.headerJoinsRow.plainKeys == Tryd.prog.plainKeys)) = true := Fct.c22
theorem c23 : (Rows.headerJoinsRow.shortTexts.isNone) = true := by kernel_rfl
theorem c24 : (Tryd.prog.stopsHeard) = true := Fct.c24
theorem c25 : (Tryd.prog.mayEnter) = true := Fct.c25
theorem c26 : ((Rows.headerJoinsRow.lifted == Tryd.prog.liftsFinal)) = true := Fct.c26
theorem c27 : ((Tryd.prog.make == some Rows.headerJoinsRow.make)) = true := Fct.c27
theorem c29 : ((Rows.headerJoinsRow.pinned == Rows.headerJoinsRow.pinnedBy)) = true := by kernel_rfl
theorem c30 : ((Rows.headerJoinsRow.veiled == (Tryd.f4.params.toList ++ Rows.headerJoinsSpec.plain.varTypes Tryd.prog ++ Tryd.f4.resultTypes.toList).any (Tryd.prog.veiledRec ·))) = true := by kernel_rfl
theorem c31 : (Rows.headerJoinsRow.veiledFits Tryd.prog Tryd.f4.params.toList (Tryd.f4.params.toList ++ Rows.headerJoinsSpec.plain.varTypes Tryd.prog ++ Tryd.f4.resultTypes.toList)) = true := by kernel_rfl
theorem closed : joinedFacts Tryd.prog 4 Tryd.f4 Rows.headerJoinsSpec Rows.headerJoinsRow = true := by
  unfold joinedFacts
  with_reducible refine (land (land (land (land (land (land (land (land (land (land (land (land (land (land (land (land (land (land (land (land (land (land (land (land (land (land (land (land (land (land (land ?_ ?_) ?_) ?_) ?_) ?_) ?_) ?_) ?_) ?_) ?_) ?_) ?_) ?_) ?_) ?_) ?_) ?_) ?_) ?_) ?_) ?_) ?_) ?_) ?_) ?_) ?_) ?_) ?_) ?_) ?_) ?_)
  · first | with_reducible exact c0 | exact c0
  · first | with_reducible exact c1 | exact c1
  · first | with_reducible exact c2 | exact c2
  · first | with_reducible exact c3 | exact c3
  · first | with_reducible exact c4 | exact c4
  · first | with_reducible exact c5 | exact c5
  · first | with_reducible exact c6 | exact c6
  · first | with_reducible exact c7 | exact c7
  · first | with_reducible exact c8 | exact c8
  · first | with_reducible exact c9 | exact c9
  · first | with_reducible exact c10 | exact c10
  · first | with_reducible exact c11 | exact c11
  · first | with_reducible exact c12 | exact c12
  · first | with_reducible exact c13 | exact c13
  · first | with_reducible exact c14 | exact c14
  · first | with_reducible exact c15 | exact c15
  · first | with_reducible exact c16 | exact c16
  · first | with_reducible exact c17 | exact c17
  · first | with_reducible exact c18 | exact c18
  · first | with_reducible exact c19 | exact c19
  · first | with_reducible exact c20 | exact c20
  · first | with_reducible exact c21 | exact c21
  · first | with_reducible exact c22 | exact c22
  · first | with_reducible exact c23 | exact c23
  · first | with_reducible exact c24 | exact c24
  · first | with_reducible exact c25 | exact c25
  · first | with_reducible exact c26 | exact c26
  · first | with_reducible exact c27 | exact c27
  · kernel_rfl
  · first | with_reducible exact c29 | exact c29
  · first | with_reducible exact c30 | exact c30
  · first | with_reducible exact c31 | exact c31
theorem over : Rows.headerJoinsRow.holds Tryd.pinned (OpenSpec.ofChange Rows.headerJoinsSpec) :=
  OpenClaim.holds_of_wide 4 Tryd.f4 rfl rfl rfl rfl rfl rfl rfl ⟨rfl, rfl, rfl, rfl, rfl⟩ rfl rfl rfl rfl rfl (by kernel_rfl) Tryd.func4 closed
    (of_decide_eq_true (by kernel_rfl)) (by unfold Func.isWrapper; first | (rw [if_pos (by decide +kernel)]; kernel_rfl) | (rw [if_neg (by decide +kernel)]; exact ⟨rfl, rfl⟩))
    (fun os started H enc _ => lifted os started H enc)
theorem goes : false = Rows.headerJoinsRow.goesBy Tryd.prog := by kernel_rfl
end Go.Proofs.YtpihkmpcnkhnfaaDoor.headerJoins
