/- A part of the proof of the law HeaderSplits: LawBHeaderSplits. -/
import Derived.Test.YtpihkmpcnkhnfaaDoorZHs10
import Derived.Test.YtpihkmpcnkhnfaaDoorZHs11
import Derived.Test.YtpihkmpcnkhnfaaDoorZHs12
import Derived.Test.YtpihkmpcnkhnfaaDoorZHs13
import Derived.Test.YtpihkmpcnkhnfaaDoorZHs14
import Derived.SevenTiedAt
import Derived.WalkKit
import Derived.ProofKit
import Derived.OpenShut
import Derived.ShutString
import Derived.ChangeOld
import Derived.Below
import Derived.SizedLaws
import Derived.LaidLaws
import Derived.ChangeVars
import Derived.JoinedOf
namespace Go.Proofs.YtpihkmpcnkhnfaaDoor.headerSplits
open Go.ChangeShapes Go.WideShapes Go.ChangeAt Go.RowKit Go.Proofs.YtpihkmpcnkhnfaaDoor.Opn Go.Proofs.YtpihkmpcnkhnfaaDoorW.PrintWords Go.Proofs.YtpihkmpcnkhnfaaDoor.headerSplitsPrm
set_option linter.unusedVariables false
theorem land {a b : Bool} (h : a = true) (k : b = true) : (a && b) = true := by rw [h, k]; rfl
theorem c0 : (Rows.headerSplitsRow.wf (OpenSpec.ofChange Rows.headerSplitsSpec)) = true := by kernel_rfl
theorem c1 : (laidOutB Tryd.prog) = true := Fct.c1
theorem c2 : (mapsRowed Tryd.prog) = true := Fct.c2
theorem c3 : (Tryd.f3.params.all (Tryd.prog.readableRec ·)) = true := by kernel_rfl
theorem c4 : (namedTie Tryd.prog Rows.headerSplitsRow.named Rows.headerSplitsSpec.vars) = true := by kernel_rfl
theorem c5 : ((Rows.headerSplitsRow.stops == [])) = true := by kernel_rfl
theorem c6 : ((Tryd.prog.stops == [])) = true := Fct.c6
theorem c7 : ((Rows.headerSplitsRow.knobs == [])) = true := by kernel_rfl
theorem c8 : ((Tryd.prog.stopKnobs == [])) = true := Fct.c8
theorem c9 : ((Rows.headerSplitsRow.inPlace == Tryd.prog.inPlace 3)) = true := by kernel_rfl
theorem c10 : ((Rows.headerSplitsRow.unfollowed == Tryd.prog.unfollowed 3)) = true := by kernel_rfl
theorem c11 : ((Rows.headerSplitsRow.recurses == Tryd.prog.recurses 3)) = true := by kernel_rfl
theorem c12 : ((Rows.headerSplitsRow.named == Tryd.prog.varsNamed 3)) = true := by kernel_rfl
theorem c13 : ((Rows.headerSplitsRow.maps == (Tryd.f3.params.toList ++ Rows.headerSplitsSpec.plain.varTypes Tryd.prog).any (Tryd.prog.mapsRec ·))) = true := by kernel_rfl
theorem c14 : ((Rows.headerSplitsRow.ifaces == (Tryd.f3.params.toList ++ Rows.headerSplitsSpec.plain.varTypes Tryd.prog).any (Tryd.prog.ifacesRec ·))) = true := by kernel_rfl
theorem c15 : ((Rows.headerSplitsRow.mapsOut == Tryd.prog.mapsAmong Tryd.f3.resultTypes.toList)) = true := by kernel_rfl
theorem c16 : ((Rows.headerSplitsRow.loops == (Tryd.f3.params.toList ++ Rows.headerSplitsSpec.plain.varTypes Tryd.prog).any (Tryd.prog.loopsFrom ·))) = true := by kernel_rfl
theorem c17 : ((Rows.headerSplitsRow.wideKeys == (Tryd.f3.params.toList ++ Rows.headerSplitsSpec.plain.varTypes Tryd.prog ++ Tryd.f3.resultTypes.toList).any (Tryd.prog.wideKeysFrom ·))) = true := by kernel_rfl
theorem c18 : (Rows.headerSplitsSpec.vars.all (Tryd.prog.varReadable ·)) = true := by kernel_rfl
theorem c19 : (Tryd.f3.resultTypes.all (fun t => Tryd.prog.readableRec t && decide (t < Tryd.prog.types.size))) = true := by kernel_rfl
theorem c20 : ((Rows.headerSplitsRow.ifacesOut == Tryd.f3.resultTypes.toList.any (Tryd.prog.ifacesRec ·))) = true := by kernel_rfl
theorem c21 : ((Rows.headerSplitsRow.loopsOut == Tryd.f3.resultTypes.toList.any (Tryd.prog.loopsFrom ·))) = true := by kernel_rfl
theorem c22 : ((Rows.headerSplitsRow.plainKeys == Tryd.prog.plainKeys)) = true := Fct.c22
theorem c23 : (Rows.headerSplitsRow.shortTexts.isNone) = true := by kernel_rfl
theorem c24 : (Tryd.prog.stopsHeard) = true := Fct.c24
theorem c25 : (Tryd.prog.mayEnter) = true := Fct.c25
theorem c26 : ((Rows.headerSplitsRow.lifted == Tryd.prog.liftsFinal)) = true := Fct.c26
theorem c27 : ((Tryd.prog.make == some Rows.headerSplitsRow.make)) = true := Fct.c27
theorem c29 : ((Rows.headerSplitsRow.pinned == Rows.headerSplitsRow.pinnedBy)) = true := by kernel_rfl
theorem c30 : ((Rows.headerSplitsRow.veiled == (Tryd.f3.params.toList ++ Rows.headerSplitsSpec.plain.varTypes Tryd.prog ++ Tryd.f3.resultTypes.toList).any (Tryd.prog.veiledRec ·))) = true := by kernel_rfl
theorem c31 : (Rows.headerSplitsRow.veiledFits Tryd.prog Tryd.f3.params.toList (Tryd.f3.params.toList ++ Rows.headerSplitsSpec.plain.varTypes Tryd.prog ++ Tryd.f3.resultTypes.toList)) = true := by kernel_rfl
theorem closed : joinedFacts Tryd.prog 3 Tryd.f3 Rows.headerSplitsSpec Rows.headerSplitsRow = true := by
  unfold joinedFacts
  with_reducible refine (land (land (land (land (land (land (land (land (land (land (land (land (land (land (land (land (land (land (land (land (land (land (land (land (land (land (land (land (land (land (land ?_ ?_) ?_) ?_) ?_) ?_) ?_) ?_) ?_) ?_) ?_) ?_) ?_) ?_) ?_) ?_) ?_) ?_) ?_) ?_) ?_) ?_) ?_) ?_) ?_) ?_) ?_) ?_) ?_) ?_) ?_) ?_)
  · first | with_reducible exact c0 | exact c0
  · first | with_reducible exact c1 | exact c1
  · first | with_reducible exact c2 | exact c2
  · first | with_reducible exact c3 | exact c3
  · first | with_reducible exact c4 | exact c4
  · first | with_reducible exact c5 | exact c5
  · first | with_reducible exact c6 | exact c6
  · first | with_reducible exact c7 | exact c7
  · first | with_reducible exact c8 | exact c8
  · first | with_reducible exact c9 | exact c9
  · first | with_reducible exact c10 | exact c10
  · first | with_reducible exact c11 | exact c11
  · first | with_reducible exact c12 | exact c12
  · first | with_reducible exact c13 | exact c13
  · first | with_reducible exact c14 | exact c14
  · first | with_reducible exact c15 | exact c15
  · first | with_reducible exact c16 | exact c16
  · first | with_reducible exact c17 | exact c17
  · first | with_reducible exact c18 | exact c18
  · first | with_reducible exact c19 | exact c19
  · first | with_reducible exact c20 | exact c20
  · first | with_reducible exact c21 | exact c21
  · first | with_reducible exact c22 | exact c22
  · first | with_reducible exact c23 | exact c23
  · first | with_reducible exact c24 | exact c24
  · first | with_reducible exact c25 | exact c25
  · first | with_reducible exact c26 | exact c26
  · first | with_reducible exact c27 | exact c27
  · kernel_rfl
  · first | with_reducible exact c29 | exact c29
  · first | with_reducible exact c30 | exact c30
  · first | with_reducible exact c31 | exact c31
theorem over : Rows.headerSplitsRow.holds Tryd.pinned (OpenSpec.ofChange Rows.headerSplitsSpec) :=
  OpenClaim.holds_of_wide 3 Tryd.f3 rfl rfl rfl rfl rfl rfl rfl ⟨rfl, rfl, rfl, rfl, rfl⟩ rfl rfl rfl rfl rfl (by kernel_rfl) Tryd.func3 closed
    (of_decide_eq_true (by kernel_rfl)) (by unfold Func.isWrapper; first | (rw [if_pos (by decide +kernel)]; kernel_rfl) | (rw [if_neg (by decide +kernel)]; exact ⟨rfl, rfl⟩))
    (fun os started H enc _ => lifted os started H enc)
theorem goes : false = Rows.headerSplitsRow.goesBy Tryd.prog := by kernel_rfl
end Go.Proofs.YtpihkmpcnkhnfaaDoor.headerSplits
