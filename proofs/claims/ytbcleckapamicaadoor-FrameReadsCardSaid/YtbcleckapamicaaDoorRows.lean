/-
  NARROWER THAN 'FOR EVERY INPUT', by the rows' own cells (each row's printed sentence says how): VarintWrites: laid · VarintReads: laid · VarintBack: laid · VarintShort: laid · VarintTakes: laid · VarintGives: laid · HeaderWrites: laid · FrameWrites: laid · HeaderReads: laid · HeaderBack: laid · HeaderCut: laid · HeaderSplits: laid · HeaderJoins: laid · FrameReads: laid · FrameBack: laid · FrameAgain: laid · FrameJoins: laid · FrameKinds: laid.
  DERIVED. THE GIVEN ROWS OF THIS SEAT. 18 by the template 'for every input the law returns true; each argument reads behind the call as it read before'; 0 by the template 'total and deterministic' (their statements: YtbcleckapamicaaDoorTotals.lean).
  GIVEN WITH THE SEED: the statements are not yours to turn. If you find one false, say at which input.
  Laid BY PROGRAM, IN A SANDBOX (cutbox-rows.mjs): the forced cells as the released guide's own fill.sh prints them over the translation 921c0ea70cecbb61… (all of the seat's roots in one cut). By AI agents, Wed Nov 11 2026. No macro, syntax, notation, axiom, sorry.
-/
import Derived.Test.YtbcleckapamicaaDoorChecked
import GoSem.Claim
import GoSem.ClaimJoined
import GoSem.ClaimMapViews
import Derived.JoinedTies
import Derived.KernelRfl
namespace Go.Proofs.YtbcleckapamicaaDoor
/- THE CELL 'sum', in the pinned program and in every row, IS THE sha256 OF THE DUMP (.gsa) THAT YtbcleckapamicaaDoorProg.lean LOADS. Nothing in Lean hashes anything: it is a label: what it is worth is what the hold of that sum in a sandbox is worth. -/
noncomputable def Tryd.pinned : Pinned := { name := "ytbcleckapamicaadoor", sum := "921c0ea70cecbb6177e38b928228df910f06c16976983fe907bd3b39d313b4dc", checked := Tryd.checked }
namespace Rows
def none {H : Type} : Left H := { results := [], args := [] }

/- WHAT THE LISTED PACKAGE-LEVEL VARIABLES READ AS WHEN THE CALL BEGINS. Each datum BY PROGRAM (the guide's laid-datum.mjs) off the statement by which the dump's own 'gosem.cut.vars' lays the variable. In a bare row this is a premise. The card (YtbcleckapamicaaDoorCards.lean) ties it to the program's text. -/
def laid_math_bits_deBruijn32tab {H : Type} : DataW H := .agg [.lit (.int .u8 0), .lit (.int .u8 1), .lit (.int .u8 28), .lit (.int .u8 2), .lit (.int .u8 29), .lit (.int .u8 14), .lit (.int .u8 24), .lit (.int .u8 3), .lit (.int .u8 30), .lit (.int .u8 22), .lit (.int .u8 20), .lit (.int .u8 15), .lit (.int .u8 25), .lit (.int .u8 17), .lit (.int .u8 4), .lit (.int .u8 8), .lit (.int .u8 31), .lit (.int .u8 27), .lit (.int .u8 13), .lit (.int .u8 23), .lit (.int .u8 21), .lit (.int .u8 19), .lit (.int .u8 16), .lit (.int .u8 7), .lit (.int .u8 26), .lit (.int .u8 12), .lit (.int .u8 18), .lit (.int .u8 6), .lit (.int .u8 11), .lit (.int .u8 5), .lit (.int .u8 10), .lit (.int .u8 9)]
def laid_math_bits_deBruijn64tab {H : Type} : DataW H := .agg [.lit (.int .u8 0), .lit (.int .u8 1), .lit (.int .u8 56), .lit (.int .u8 2), .lit (.int .u8 57), .lit (.int .u8 49), .lit (.int .u8 28), .lit (.int .u8 3), .lit (.int .u8 61), .lit (.int .u8 58), .lit (.int .u8 42), .lit (.int .u8 50), .lit (.int .u8 38), .lit (.int .u8 29), .lit (.int .u8 17), .lit (.int .u8 4), .lit (.int .u8 62), .lit (.int .u8 47), .lit (.int .u8 59), .lit (.int .u8 36), .lit (.int .u8 45), .lit (.int .u8 43), .lit (.int .u8 51), .lit (.int .u8 22), .lit (.int .u8 53), .lit (.int .u8 39), .lit (.int .u8 33), .lit (.int .u8 30), .lit (.int .u8 24), .lit (.int .u8 18), .lit (.int .u8 12), .lit (.int .u8 5), .lit (.int .u8 63), .lit (.int .u8 55), .lit (.int .u8 48), .lit (.int .u8 27), .lit (.int .u8 60), .lit (.int .u8 41), .lit (.int .u8 37), .lit (.int .u8 16), .lit (.int .u8 46), .lit (.int .u8 35), .lit (.int .u8 44), .lit (.int .u8 21), .lit (.int .u8 52), .lit (.int .u8 32), .lit (.int .u8 23), .lit (.int .u8 11), .lit (.int .u8 54), .lit (.int .u8 26), .lit (.int .u8 40), .lit (.int .u8 15), .lit (.int .u8 34), .lit (.int .u8 20), .lit (.int .u8 31), .lit (.int .u8 10), .lit (.int .u8 25), .lit (.int .u8 14), .lit (.int .u8 19), .lit (.int .u8 9), .lit (.int .u8 13), .lit (.int .u8 8), .lit (.int .u8 7), .lit (.int .u8 6)]

/-- 'shibbolethlaw01.VarintWrites': WHATEVER THE INPUT: true; the input reads as it did. -/
def varintWritesSpec : ChangeSpec := { name := "varintWrites", fn := fun _ => fun
  | [d1, d2] => { results := [.lit (.bool true)], args := [d1, d2] }
  | _ => none }
def varintWritesRow : OpenClaim := { program := "ytbcleckapamicaadoor", sum := "921c0ea70cecbb6177e38b928228df910f06c16976983fe907bd3b39d313b4dc", func := "shibboleth/shibbolethlaw01.VarintWrites", spec := "varintWrites", named := ["math/bits.deBruijn32tab", "math/bits.deBruijn64tab"], apart := false, laid := [("math/bits.deBruijn32tab", laid_math_bits_deBruijn32tab), ("math/bits.deBruijn64tab", laid_math_bits_deBruijn64tab)] }
def VarintWritesSaid : Prop := varintWritesRow.holds Tryd.pinned (OpenSpec.ofChange varintWritesSpec)

/-- ITS FALSE NEIGHBOUR: 'it returns false'. Refute it at one input. -/
def varintWritesWrong : ChangeSpec := { name := "varintWrites", fn := fun _ => fun
  | [d1, d2] => { results := [.lit (.bool false)], args := [d1, d2] }
  | _ => none }
def VarintWritesWrongFalsely : Prop := varintWritesRow.holds Tryd.pinned (OpenSpec.ofChange varintWritesWrong)

/-- 'shibbolethlaw01.VarintReads': WHATEVER THE INPUT: true; the input reads as it did. -/
def varintReadsSpec : ChangeSpec := { name := "varintReads", fn := fun _ => fun
  | [d] => { results := [.lit (.bool true)], args := [d] }
  | _ => none }
def varintReadsRow : OpenClaim := { program := "ytbcleckapamicaadoor", sum := "921c0ea70cecbb6177e38b928228df910f06c16976983fe907bd3b39d313b4dc", func := "shibboleth/shibbolethlaw01.VarintReads", spec := "varintReads", named := ["math/bits.deBruijn32tab", "math/bits.deBruijn64tab"], apart := false, laid := [("math/bits.deBruijn32tab", laid_math_bits_deBruijn32tab), ("math/bits.deBruijn64tab", laid_math_bits_deBruijn64tab)] }
def VarintReadsSaid : Prop := varintReadsRow.holds Tryd.pinned (OpenSpec.ofChange varintReadsSpec)

/-- ITS FALSE NEIGHBOUR: 'it returns false'. Refute it at one input. -/
def varintReadsWrong : ChangeSpec := { name := "varintReads", fn := fun _ => fun
  | [d] => { results := [.lit (.bool false)], args := [d] }
  | _ => none }
def VarintReadsWrongFalsely : Prop := varintReadsRow.holds Tryd.pinned (OpenSpec.ofChange varintReadsWrong)

/-- 'shibbolethlaw01.VarintBack': WHATEVER THE INPUT: true; the input reads as it did. -/
def varintBackSpec : ChangeSpec := { name := "varintBack", fn := fun _ => fun
  | [d1, d2] => { results := [.lit (.bool true)], args := [d1, d2] }
  | _ => none }
def varintBackRow : OpenClaim := { program := "ytbcleckapamicaadoor", sum := "921c0ea70cecbb6177e38b928228df910f06c16976983fe907bd3b39d313b4dc", func := "shibboleth/shibbolethlaw01.VarintBack", spec := "varintBack", named := ["math/bits.deBruijn32tab", "math/bits.deBruijn64tab"], apart := false, laid := [("math/bits.deBruijn32tab", laid_math_bits_deBruijn32tab), ("math/bits.deBruijn64tab", laid_math_bits_deBruijn64tab)] }
def VarintBackSaid : Prop := varintBackRow.holds Tryd.pinned (OpenSpec.ofChange varintBackSpec)

/-- ITS FALSE NEIGHBOUR: 'it returns false'. Refute it at one input. -/
def varintBackWrong : ChangeSpec := { name := "varintBack", fn := fun _ => fun
  | [d1, d2] => { results := [.lit (.bool false)], args := [d1, d2] }
  | _ => none }
def VarintBackWrongFalsely : Prop := varintBackRow.holds Tryd.pinned (OpenSpec.ofChange varintBackWrong)

/-- 'shibbolethlaw01.VarintShort': WHATEVER THE INPUT: true; the input reads as it did. -/
def varintShortSpec : ChangeSpec := { name := "varintShort", fn := fun _ => fun
  | [d1, d2] => { results := [.lit (.bool true)], args := [d1, d2] }
  | _ => none }
def varintShortRow : OpenClaim := { program := "ytbcleckapamicaadoor", sum := "921c0ea70cecbb6177e38b928228df910f06c16976983fe907bd3b39d313b4dc", func := "shibboleth/shibbolethlaw01.VarintShort", spec := "varintShort", named := ["math/bits.deBruijn32tab", "math/bits.deBruijn64tab"], apart := false, laid := [("math/bits.deBruijn32tab", laid_math_bits_deBruijn32tab), ("math/bits.deBruijn64tab", laid_math_bits_deBruijn64tab)] }
def VarintShortSaid : Prop := varintShortRow.holds Tryd.pinned (OpenSpec.ofChange varintShortSpec)

/-- ITS FALSE NEIGHBOUR: 'it returns false'. Refute it at one input. -/
def varintShortWrong : ChangeSpec := { name := "varintShort", fn := fun _ => fun
  | [d1, d2] => { results := [.lit (.bool false)], args := [d1, d2] }
  | _ => none }
def VarintShortWrongFalsely : Prop := varintShortRow.holds Tryd.pinned (OpenSpec.ofChange varintShortWrong)

/-- 'shibbolethlaw01.VarintTakes': WHATEVER THE INPUT: true; the input reads as it did. -/
def varintTakesSpec : ChangeSpec := { name := "varintTakes", fn := fun _ => fun
  | [d1, d2] => { results := [.lit (.bool true)], args := [d1, d2] }
  | _ => none }
def varintTakesRow : OpenClaim := { program := "ytbcleckapamicaadoor", sum := "921c0ea70cecbb6177e38b928228df910f06c16976983fe907bd3b39d313b4dc", func := "shibboleth/shibbolethlaw01.VarintTakes", spec := "varintTakes", named := ["math/bits.deBruijn32tab", "math/bits.deBruijn64tab"], apart := false, laid := [("math/bits.deBruijn32tab", laid_math_bits_deBruijn32tab), ("math/bits.deBruijn64tab", laid_math_bits_deBruijn64tab)] }
def VarintTakesSaid : Prop := varintTakesRow.holds Tryd.pinned (OpenSpec.ofChange varintTakesSpec)

/-- ITS FALSE NEIGHBOUR: 'it returns false'. Refute it at one input. -/
def varintTakesWrong : ChangeSpec := { name := "varintTakes", fn := fun _ => fun
  | [d1, d2] => { results := [.lit (.bool false)], args := [d1, d2] }
  | _ => none }
def VarintTakesWrongFalsely : Prop := varintTakesRow.holds Tryd.pinned (OpenSpec.ofChange varintTakesWrong)

/-- 'shibbolethlaw01.VarintGives': WHATEVER THE INPUT: true; the input reads as it did. -/
def varintGivesSpec : ChangeSpec := { name := "varintGives", fn := fun _ => fun
  | [d1, d2] => { results := [.lit (.bool true)], args := [d1, d2] }
  | _ => none }
def varintGivesRow : OpenClaim := { program := "ytbcleckapamicaadoor", sum := "921c0ea70cecbb6177e38b928228df910f06c16976983fe907bd3b39d313b4dc", func := "shibboleth/shibbolethlaw01.VarintGives", spec := "varintGives", named := ["math/bits.deBruijn32tab", "math/bits.deBruijn64tab"], apart := false, laid := [("math/bits.deBruijn32tab", laid_math_bits_deBruijn32tab), ("math/bits.deBruijn64tab", laid_math_bits_deBruijn64tab)] }
def VarintGivesSaid : Prop := varintGivesRow.holds Tryd.pinned (OpenSpec.ofChange varintGivesSpec)

/-- ITS FALSE NEIGHBOUR: 'it returns false'. Refute it at one input. -/
def varintGivesWrong : ChangeSpec := { name := "varintGives", fn := fun _ => fun
  | [d1, d2] => { results := [.lit (.bool false)], args := [d1, d2] }
  | _ => none }
def VarintGivesWrongFalsely : Prop := varintGivesRow.holds Tryd.pinned (OpenSpec.ofChange varintGivesWrong)

/-- 'shibbolethlaw05.HeaderWrites': WHATEVER THE INPUT: true; the input reads as it did. -/
def headerWritesSpec : ChangeSpec := { name := "headerWrites", fn := fun _ => fun
  | [d1, d2] => { results := [.lit (.bool true)], args := [d1, d2] }
  | _ => none }
def headerWritesRow : OpenClaim := { program := "ytbcleckapamicaadoor", sum := "921c0ea70cecbb6177e38b928228df910f06c16976983fe907bd3b39d313b4dc", func := "shibboleth/shibbolethlaw05.HeaderWrites", spec := "headerWrites", named := ["math/bits.deBruijn32tab", "math/bits.deBruijn64tab"], apart := false, laid := [("math/bits.deBruijn32tab", laid_math_bits_deBruijn32tab), ("math/bits.deBruijn64tab", laid_math_bits_deBruijn64tab)] }
def HeaderWritesSaid : Prop := headerWritesRow.holds Tryd.pinned (OpenSpec.ofChange headerWritesSpec)

/-- ITS FALSE NEIGHBOUR: 'it returns false'. Refute it at one input. -/
def headerWritesWrong : ChangeSpec := { name := "headerWrites", fn := fun _ => fun
  | [d1, d2] => { results := [.lit (.bool false)], args := [d1, d2] }
  | _ => none }
def HeaderWritesWrongFalsely : Prop := headerWritesRow.holds Tryd.pinned (OpenSpec.ofChange headerWritesWrong)

/-- 'shibbolethlaw06.FrameWrites': WHATEVER THE INPUT: true; the input reads as it did. -/
def frameWritesSpec : ChangeSpec := { name := "frameWrites", fn := fun _ => fun
  | [d] => { results := [.lit (.bool true)], args := [d] }
  | _ => none }
def frameWritesRow : OpenClaim := { program := "ytbcleckapamicaadoor", sum := "921c0ea70cecbb6177e38b928228df910f06c16976983fe907bd3b39d313b4dc", func := "shibboleth/shibbolethlaw06.FrameWrites", spec := "frameWrites", named := ["math/bits.deBruijn32tab", "math/bits.deBruijn64tab"], apart := false, laid := [("math/bits.deBruijn32tab", laid_math_bits_deBruijn32tab), ("math/bits.deBruijn64tab", laid_math_bits_deBruijn64tab)] }
def FrameWritesSaid : Prop := frameWritesRow.holds Tryd.pinned (OpenSpec.ofChange frameWritesSpec)

/-- ITS FALSE NEIGHBOUR: 'it returns false'. Refute it at one input. -/
def frameWritesWrong : ChangeSpec := { name := "frameWrites", fn := fun _ => fun
  | [d] => { results := [.lit (.bool false)], args := [d] }
  | _ => none }
def FrameWritesWrongFalsely : Prop := frameWritesRow.holds Tryd.pinned (OpenSpec.ofChange frameWritesWrong)

/-- 'shibbolethlaw05.HeaderReads': WHATEVER THE INPUT: true; the input reads as it did. -/
def headerReadsSpec : ChangeSpec := { name := "headerReads", fn := fun _ => fun
  | [d] => { results := [.lit (.bool true)], args := [d] }
  | _ => none }
def headerReadsRow : OpenClaim := { program := "ytbcleckapamicaadoor", sum := "921c0ea70cecbb6177e38b928228df910f06c16976983fe907bd3b39d313b4dc", func := "shibboleth/shibbolethlaw05.HeaderReads", spec := "headerReads", unfollowed := true, recurses := true, named := ["math/bits.deBruijn32tab", "math/bits.deBruijn64tab"], apart := false, laid := [("math/bits.deBruijn32tab", laid_math_bits_deBruijn32tab), ("math/bits.deBruijn64tab", laid_math_bits_deBruijn64tab)] }
def HeaderReadsSaid : Prop := headerReadsRow.holds Tryd.pinned (OpenSpec.ofChange headerReadsSpec)

/-- ITS FALSE NEIGHBOUR: 'it returns false'. Refute it at one input. -/
def headerReadsWrong : ChangeSpec := { name := "headerReads", fn := fun _ => fun
  | [d] => { results := [.lit (.bool false)], args := [d] }
  | _ => none }
def HeaderReadsWrongFalsely : Prop := headerReadsRow.holds Tryd.pinned (OpenSpec.ofChange headerReadsWrong)

/-- 'shibbolethlaw05.HeaderBack': WHATEVER THE INPUT: true; the input reads as it did. -/
def headerBackSpec : ChangeSpec := { name := "headerBack", fn := fun _ => fun
  | [d1, d2, d3] => { results := [.lit (.bool true)], args := [d1, d2, d3] }
  | _ => none }
def headerBackRow : OpenClaim := { program := "ytbcleckapamicaadoor", sum := "921c0ea70cecbb6177e38b928228df910f06c16976983fe907bd3b39d313b4dc", func := "shibboleth/shibbolethlaw05.HeaderBack", spec := "headerBack", unfollowed := true, recurses := true, named := ["math/bits.deBruijn32tab", "math/bits.deBruijn64tab"], apart := false, laid := [("math/bits.deBruijn32tab", laid_math_bits_deBruijn32tab), ("math/bits.deBruijn64tab", laid_math_bits_deBruijn64tab)] }
def HeaderBackSaid : Prop := headerBackRow.holds Tryd.pinned (OpenSpec.ofChange headerBackSpec)

/-- ITS FALSE NEIGHBOUR: 'it returns false'. Refute it at one input. -/
def headerBackWrong : ChangeSpec := { name := "headerBack", fn := fun _ => fun
  | [d1, d2, d3] => { results := [.lit (.bool false)], args := [d1, d2, d3] }
  | _ => none }
def HeaderBackWrongFalsely : Prop := headerBackRow.holds Tryd.pinned (OpenSpec.ofChange headerBackWrong)

/-- 'shibbolethlaw05.HeaderCut': WHATEVER THE INPUT: true; the input reads as it did. -/
def headerCutSpec : ChangeSpec := { name := "headerCut", fn := fun _ => fun
  | [d1, d2] => { results := [.lit (.bool true)], args := [d1, d2] }
  | _ => none }
def headerCutRow : OpenClaim := { program := "ytbcleckapamicaadoor", sum := "921c0ea70cecbb6177e38b928228df910f06c16976983fe907bd3b39d313b4dc", func := "shibboleth/shibbolethlaw05.HeaderCut", spec := "headerCut", unfollowed := true, recurses := true, named := ["math/bits.deBruijn32tab", "math/bits.deBruijn64tab"], apart := false, laid := [("math/bits.deBruijn32tab", laid_math_bits_deBruijn32tab), ("math/bits.deBruijn64tab", laid_math_bits_deBruijn64tab)] }
def HeaderCutSaid : Prop := headerCutRow.holds Tryd.pinned (OpenSpec.ofChange headerCutSpec)

/-- ITS FALSE NEIGHBOUR: 'it returns false'. Refute it at one input. -/
def headerCutWrong : ChangeSpec := { name := "headerCut", fn := fun _ => fun
  | [d1, d2] => { results := [.lit (.bool false)], args := [d1, d2] }
  | _ => none }
def HeaderCutWrongFalsely : Prop := headerCutRow.holds Tryd.pinned (OpenSpec.ofChange headerCutWrong)

/-- 'shibbolethlaw05.HeaderSplits': WHATEVER THE INPUT: true; the input reads as it did. -/
def headerSplitsSpec : ChangeSpec := { name := "headerSplits", fn := fun _ => fun
  | [d] => { results := [.lit (.bool true)], args := [d] }
  | _ => none }
def headerSplitsRow : OpenClaim := { program := "ytbcleckapamicaadoor", sum := "921c0ea70cecbb6177e38b928228df910f06c16976983fe907bd3b39d313b4dc", func := "shibboleth/shibbolethlaw05.HeaderSplits", spec := "headerSplits", unfollowed := true, recurses := true, named := ["math/bits.deBruijn32tab", "math/bits.deBruijn64tab"], apart := false, laid := [("math/bits.deBruijn32tab", laid_math_bits_deBruijn32tab), ("math/bits.deBruijn64tab", laid_math_bits_deBruijn64tab)] }
def HeaderSplitsSaid : Prop := headerSplitsRow.holds Tryd.pinned (OpenSpec.ofChange headerSplitsSpec)

/-- ITS FALSE NEIGHBOUR: 'it returns false'. Refute it at one input. -/
def headerSplitsWrong : ChangeSpec := { name := "headerSplits", fn := fun _ => fun
  | [d] => { results := [.lit (.bool false)], args := [d] }
  | _ => none }
def HeaderSplitsWrongFalsely : Prop := headerSplitsRow.holds Tryd.pinned (OpenSpec.ofChange headerSplitsWrong)

/-- 'shibbolethlaw05.HeaderJoins': WHATEVER THE INPUT: true; the input reads as it did. -/
def headerJoinsSpec : ChangeSpec := { name := "headerJoins", fn := fun _ => fun
  | [d] => { results := [.lit (.bool true)], args := [d] }
  | _ => none }
def headerJoinsRow : OpenClaim := { program := "ytbcleckapamicaadoor", sum := "921c0ea70cecbb6177e38b928228df910f06c16976983fe907bd3b39d313b4dc", func := "shibboleth/shibbolethlaw05.HeaderJoins", spec := "headerJoins", unfollowed := true, recurses := true, named := ["math/bits.deBruijn32tab", "math/bits.deBruijn64tab"], apart := false, laid := [("math/bits.deBruijn32tab", laid_math_bits_deBruijn32tab), ("math/bits.deBruijn64tab", laid_math_bits_deBruijn64tab)] }
def HeaderJoinsSaid : Prop := headerJoinsRow.holds Tryd.pinned (OpenSpec.ofChange headerJoinsSpec)

/-- ITS FALSE NEIGHBOUR: 'it returns false'. Refute it at one input. -/
def headerJoinsWrong : ChangeSpec := { name := "headerJoins", fn := fun _ => fun
  | [d] => { results := [.lit (.bool false)], args := [d] }
  | _ => none }
def HeaderJoinsWrongFalsely : Prop := headerJoinsRow.holds Tryd.pinned (OpenSpec.ofChange headerJoinsWrong)

/-- 'shibbolethlaw06.FrameReads': WHATEVER THE INPUT: true; the input reads as it did. -/
def frameReadsSpec : ChangeSpec := { name := "frameReads", fn := fun _ => fun
  | [d] => { results := [.lit (.bool true)], args := [d] }
  | _ => none }
def frameReadsRow : OpenClaim := { program := "ytbcleckapamicaadoor", sum := "921c0ea70cecbb6177e38b928228df910f06c16976983fe907bd3b39d313b4dc", func := "shibboleth/shibbolethlaw06.FrameReads", spec := "frameReads", unfollowed := true, recurses := true, named := ["math/bits.deBruijn32tab", "math/bits.deBruijn64tab"], apart := false, laid := [("math/bits.deBruijn32tab", laid_math_bits_deBruijn32tab), ("math/bits.deBruijn64tab", laid_math_bits_deBruijn64tab)] }
def FrameReadsSaid : Prop := frameReadsRow.holds Tryd.pinned (OpenSpec.ofChange frameReadsSpec)

/-- ITS FALSE NEIGHBOUR: 'it returns false'. Refute it at one input. -/
def frameReadsWrong : ChangeSpec := { name := "frameReads", fn := fun _ => fun
  | [d] => { results := [.lit (.bool false)], args := [d] }
  | _ => none }
def FrameReadsWrongFalsely : Prop := frameReadsRow.holds Tryd.pinned (OpenSpec.ofChange frameReadsWrong)

/-- 'shibbolethlaw06.FrameBack': WHATEVER THE INPUT: true; the input reads as it did. -/
def frameBackSpec : ChangeSpec := { name := "frameBack", fn := fun _ => fun
  | [d] => { results := [.lit (.bool true)], args := [d] }
  | _ => none }
def frameBackRow : OpenClaim := { program := "ytbcleckapamicaadoor", sum := "921c0ea70cecbb6177e38b928228df910f06c16976983fe907bd3b39d313b4dc", func := "shibboleth/shibbolethlaw06.FrameBack", spec := "frameBack", unfollowed := true, recurses := true, named := ["math/bits.deBruijn32tab", "math/bits.deBruijn64tab"], apart := false, laid := [("math/bits.deBruijn32tab", laid_math_bits_deBruijn32tab), ("math/bits.deBruijn64tab", laid_math_bits_deBruijn64tab)] }
def FrameBackSaid : Prop := frameBackRow.holds Tryd.pinned (OpenSpec.ofChange frameBackSpec)

/-- ITS FALSE NEIGHBOUR: 'it returns false'. Refute it at one input. -/
def frameBackWrong : ChangeSpec := { name := "frameBack", fn := fun _ => fun
  | [d] => { results := [.lit (.bool false)], args := [d] }
  | _ => none }
def FrameBackWrongFalsely : Prop := frameBackRow.holds Tryd.pinned (OpenSpec.ofChange frameBackWrong)

/-- 'shibbolethlaw06.FrameAgain': WHATEVER THE INPUT: true; the input reads as it did. -/
def frameAgainSpec : ChangeSpec := { name := "frameAgain", fn := fun _ => fun
  | [d] => { results := [.lit (.bool true)], args := [d] }
  | _ => none }
def frameAgainRow : OpenClaim := { program := "ytbcleckapamicaadoor", sum := "921c0ea70cecbb6177e38b928228df910f06c16976983fe907bd3b39d313b4dc", func := "shibboleth/shibbolethlaw06.FrameAgain", spec := "frameAgain", unfollowed := true, recurses := true, named := ["math/bits.deBruijn32tab", "math/bits.deBruijn64tab"], apart := false, laid := [("math/bits.deBruijn32tab", laid_math_bits_deBruijn32tab), ("math/bits.deBruijn64tab", laid_math_bits_deBruijn64tab)] }
def FrameAgainSaid : Prop := frameAgainRow.holds Tryd.pinned (OpenSpec.ofChange frameAgainSpec)

/-- ITS FALSE NEIGHBOUR: 'it returns false'. Refute it at one input. -/
def frameAgainWrong : ChangeSpec := { name := "frameAgain", fn := fun _ => fun
  | [d] => { results := [.lit (.bool false)], args := [d] }
  | _ => none }
def FrameAgainWrongFalsely : Prop := frameAgainRow.holds Tryd.pinned (OpenSpec.ofChange frameAgainWrong)

/-- 'shibbolethlaw06.FrameJoins': WHATEVER THE INPUT: true; the input reads as it did. -/
def frameJoinsSpec : ChangeSpec := { name := "frameJoins", fn := fun _ => fun
  | [d1, d2] => { results := [.lit (.bool true)], args := [d1, d2] }
  | _ => none }
def frameJoinsRow : OpenClaim := { program := "ytbcleckapamicaadoor", sum := "921c0ea70cecbb6177e38b928228df910f06c16976983fe907bd3b39d313b4dc", func := "shibboleth/shibbolethlaw06.FrameJoins", spec := "frameJoins", unfollowed := true, recurses := true, named := ["math/bits.deBruijn32tab", "math/bits.deBruijn64tab"], apart := false, laid := [("math/bits.deBruijn32tab", laid_math_bits_deBruijn32tab), ("math/bits.deBruijn64tab", laid_math_bits_deBruijn64tab)] }
def FrameJoinsSaid : Prop := frameJoinsRow.holds Tryd.pinned (OpenSpec.ofChange frameJoinsSpec)

/-- ITS FALSE NEIGHBOUR: 'it returns false'. Refute it at one input. -/
def frameJoinsWrong : ChangeSpec := { name := "frameJoins", fn := fun _ => fun
  | [d1, d2] => { results := [.lit (.bool false)], args := [d1, d2] }
  | _ => none }
def FrameJoinsWrongFalsely : Prop := frameJoinsRow.holds Tryd.pinned (OpenSpec.ofChange frameJoinsWrong)

/-- 'shibbolethlaw06.FrameKinds': WHATEVER THE INPUT: true; the input reads as it did. -/
def frameKindsSpec : ChangeSpec := { name := "frameKinds", fn := fun _ => fun
  | [d] => { results := [.lit (.bool true)], args := [d] }
  | _ => none }
def frameKindsRow : OpenClaim := { program := "ytbcleckapamicaadoor", sum := "921c0ea70cecbb6177e38b928228df910f06c16976983fe907bd3b39d313b4dc", func := "shibboleth/shibbolethlaw06.FrameKinds", spec := "frameKinds", unfollowed := true, recurses := true, named := ["math/bits.deBruijn32tab", "math/bits.deBruijn64tab"], apart := false, laid := [("math/bits.deBruijn32tab", laid_math_bits_deBruijn32tab), ("math/bits.deBruijn64tab", laid_math_bits_deBruijn64tab)] }
def FrameKindsSaid : Prop := frameKindsRow.holds Tryd.pinned (OpenSpec.ofChange frameKindsSpec)

/-- ITS FALSE NEIGHBOUR: 'it returns false'. Refute it at one input. -/
def frameKindsWrong : ChangeSpec := { name := "frameKinds", fn := fun _ => fun
  | [d] => { results := [.lit (.bool false)], args := [d] }
  | _ => none }
def FrameKindsWrongFalsely : Prop := frameKindsRow.holds Tryd.pinned (OpenSpec.ofChange frameKindsWrong)

/- THE SECOND FORM. 'bulk': how many values and letters a reading holds, each counted each time it is reached (what is shared counts as often as it is met; a slice's spare places count too). A statement '..UptoSaid' is the law's where the arguments, and the package variables that the reading takes, are together of bulk at most 1048576: NARROWER than '..Said'. Prove '..Said' where nothing that the law and all that it calls make is longer than what came in: it says more and counts as full. Else prove '..UptoSaid'. A law counts once. -/
mutual
def uptoBulk {H : Type} : DataW H → Nat
  | .lit (.string bytes) => bytes.length + 1
  | .lit _ => 1
  | .nil => 1
  | .ptr d => uptoBulk d + 1
  | .slice elems spare => uptoBulkAll elems + uptoBulkAll spare + 1
  | .agg parts => uptoBulkAll parts + 1
  | .iface _ d => uptoBulk d + 1
  | .map entries => uptoBulkEntries entries + 1
  | .held _ => 1
def uptoBulkAll {H : Type} : List (DataW H) → Nat
  | [] => 0
  | d :: r => uptoBulk d + uptoBulkAll r
def uptoBulkEntries {H : Type} : List (Lit × DataW H) → Nat
  | [] => 0
  | x :: r => uptoBulkEntry x + uptoBulkEntries r
def uptoBulkEntry {H : Type} : Lit × DataW H → Nat
  | (.string bytes, d) => bytes.length + uptoBulk d + 1
  | (_, d) => uptoBulk d + 1
 end
def uptoSmall : (H : Type) → List (DataW H) → Bool := fun _ ds => decide (uptoBulkAll ds ≤ 1048576)
def OpenSpec.upto (s : _root_.Go.ChangeSpec) : _root_.Go.OpenSpec := { _root_.Go.OpenSpec.ofChange s with cond := some uptoSmall }

/-- 'shibbolethlaw01.VarintWrites', WHERE WHAT IT READS IS OF BULK AT MOST 1048576: true; the input reads as it did. -/
def varintWritesUptoRow : OpenClaim := { program := "ytbcleckapamicaadoor", sum := "921c0ea70cecbb6177e38b928228df910f06c16976983fe907bd3b39d313b4dc", func := "shibboleth/shibbolethlaw01.VarintWrites", spec := "varintWrites", named := ["math/bits.deBruijn32tab", "math/bits.deBruijn64tab"], apart := false, laid := [("math/bits.deBruijn32tab", laid_math_bits_deBruijn32tab), ("math/bits.deBruijn64tab", laid_math_bits_deBruijn64tab)], narrowed := true }
def VarintWritesUptoSaid : Prop := varintWritesUptoRow.holds Tryd.pinned (OpenSpec.upto varintWritesSpec)

/-- 'shibbolethlaw01.VarintReads', WHERE WHAT IT READS IS OF BULK AT MOST 1048576: true; the input reads as it did. -/
def varintReadsUptoRow : OpenClaim := { program := "ytbcleckapamicaadoor", sum := "921c0ea70cecbb6177e38b928228df910f06c16976983fe907bd3b39d313b4dc", func := "shibboleth/shibbolethlaw01.VarintReads", spec := "varintReads", named := ["math/bits.deBruijn32tab", "math/bits.deBruijn64tab"], apart := false, laid := [("math/bits.deBruijn32tab", laid_math_bits_deBruijn32tab), ("math/bits.deBruijn64tab", laid_math_bits_deBruijn64tab)], narrowed := true }
def VarintReadsUptoSaid : Prop := varintReadsUptoRow.holds Tryd.pinned (OpenSpec.upto varintReadsSpec)

/-- 'shibbolethlaw01.VarintBack', WHERE WHAT IT READS IS OF BULK AT MOST 1048576: true; the input reads as it did. -/
def varintBackUptoRow : OpenClaim := { program := "ytbcleckapamicaadoor", sum := "921c0ea70cecbb6177e38b928228df910f06c16976983fe907bd3b39d313b4dc", func := "shibboleth/shibbolethlaw01.VarintBack", spec := "varintBack", named := ["math/bits.deBruijn32tab", "math/bits.deBruijn64tab"], apart := false, laid := [("math/bits.deBruijn32tab", laid_math_bits_deBruijn32tab), ("math/bits.deBruijn64tab", laid_math_bits_deBruijn64tab)], narrowed := true }
def VarintBackUptoSaid : Prop := varintBackUptoRow.holds Tryd.pinned (OpenSpec.upto varintBackSpec)

/-- 'shibbolethlaw01.VarintShort', WHERE WHAT IT READS IS OF BULK AT MOST 1048576: true; the input reads as it did. -/
def varintShortUptoRow : OpenClaim := { program := "ytbcleckapamicaadoor", sum := "921c0ea70cecbb6177e38b928228df910f06c16976983fe907bd3b39d313b4dc", func := "shibboleth/shibbolethlaw01.VarintShort", spec := "varintShort", named := ["math/bits.deBruijn32tab", "math/bits.deBruijn64tab"], apart := false, laid := [("math/bits.deBruijn32tab", laid_math_bits_deBruijn32tab), ("math/bits.deBruijn64tab", laid_math_bits_deBruijn64tab)], narrowed := true }
def VarintShortUptoSaid : Prop := varintShortUptoRow.holds Tryd.pinned (OpenSpec.upto varintShortSpec)

/-- 'shibbolethlaw01.VarintTakes', WHERE WHAT IT READS IS OF BULK AT MOST 1048576: true; the input reads as it did. -/
def varintTakesUptoRow : OpenClaim := { program := "ytbcleckapamicaadoor", sum := "921c0ea70cecbb6177e38b928228df910f06c16976983fe907bd3b39d313b4dc", func := "shibboleth/shibbolethlaw01.VarintTakes", spec := "varintTakes", named := ["math/bits.deBruijn32tab", "math/bits.deBruijn64tab"], apart := false, laid := [("math/bits.deBruijn32tab", laid_math_bits_deBruijn32tab), ("math/bits.deBruijn64tab", laid_math_bits_deBruijn64tab)], narrowed := true }
def VarintTakesUptoSaid : Prop := varintTakesUptoRow.holds Tryd.pinned (OpenSpec.upto varintTakesSpec)

/-- 'shibbolethlaw01.VarintGives', WHERE WHAT IT READS IS OF BULK AT MOST 1048576: true; the input reads as it did. -/
def varintGivesUptoRow : OpenClaim := { program := "ytbcleckapamicaadoor", sum := "921c0ea70cecbb6177e38b928228df910f06c16976983fe907bd3b39d313b4dc", func := "shibboleth/shibbolethlaw01.VarintGives", spec := "varintGives", named := ["math/bits.deBruijn32tab", "math/bits.deBruijn64tab"], apart := false, laid := [("math/bits.deBruijn32tab", laid_math_bits_deBruijn32tab), ("math/bits.deBruijn64tab", laid_math_bits_deBruijn64tab)], narrowed := true }
def VarintGivesUptoSaid : Prop := varintGivesUptoRow.holds Tryd.pinned (OpenSpec.upto varintGivesSpec)

/-- 'shibbolethlaw05.HeaderWrites', WHERE WHAT IT READS IS OF BULK AT MOST 1048576: true; the input reads as it did. -/
def headerWritesUptoRow : OpenClaim := { program := "ytbcleckapamicaadoor", sum := "921c0ea70cecbb6177e38b928228df910f06c16976983fe907bd3b39d313b4dc", func := "shibboleth/shibbolethlaw05.HeaderWrites", spec := "headerWrites", named := ["math/bits.deBruijn32tab", "math/bits.deBruijn64tab"], apart := false, laid := [("math/bits.deBruijn32tab", laid_math_bits_deBruijn32tab), ("math/bits.deBruijn64tab", laid_math_bits_deBruijn64tab)], narrowed := true }
def HeaderWritesUptoSaid : Prop := headerWritesUptoRow.holds Tryd.pinned (OpenSpec.upto headerWritesSpec)

/-- 'shibbolethlaw06.FrameWrites', WHERE WHAT IT READS IS OF BULK AT MOST 1048576: true; the input reads as it did. -/
def frameWritesUptoRow : OpenClaim := { program := "ytbcleckapamicaadoor", sum := "921c0ea70cecbb6177e38b928228df910f06c16976983fe907bd3b39d313b4dc", func := "shibboleth/shibbolethlaw06.FrameWrites", spec := "frameWrites", named := ["math/bits.deBruijn32tab", "math/bits.deBruijn64tab"], apart := false, laid := [("math/bits.deBruijn32tab", laid_math_bits_deBruijn32tab), ("math/bits.deBruijn64tab", laid_math_bits_deBruijn64tab)], narrowed := true }
def FrameWritesUptoSaid : Prop := frameWritesUptoRow.holds Tryd.pinned (OpenSpec.upto frameWritesSpec)

/-- 'shibbolethlaw05.HeaderReads', WHERE WHAT IT READS IS OF BULK AT MOST 1048576: true; the input reads as it did. -/
def headerReadsUptoRow : OpenClaim := { program := "ytbcleckapamicaadoor", sum := "921c0ea70cecbb6177e38b928228df910f06c16976983fe907bd3b39d313b4dc", func := "shibboleth/shibbolethlaw05.HeaderReads", spec := "headerReads", unfollowed := true, recurses := true, named := ["math/bits.deBruijn32tab", "math/bits.deBruijn64tab"], apart := false, laid := [("math/bits.deBruijn32tab", laid_math_bits_deBruijn32tab), ("math/bits.deBruijn64tab", laid_math_bits_deBruijn64tab)], narrowed := true }
def HeaderReadsUptoSaid : Prop := headerReadsUptoRow.holds Tryd.pinned (OpenSpec.upto headerReadsSpec)

/-- 'shibbolethlaw05.HeaderBack', WHERE WHAT IT READS IS OF BULK AT MOST 1048576: true; the input reads as it did. -/
def headerBackUptoRow : OpenClaim := { program := "ytbcleckapamicaadoor", sum := "921c0ea70cecbb6177e38b928228df910f06c16976983fe907bd3b39d313b4dc", func := "shibboleth/shibbolethlaw05.HeaderBack", spec := "headerBack", unfollowed := true, recurses := true, named := ["math/bits.deBruijn32tab", "math/bits.deBruijn64tab"], apart := false, laid := [("math/bits.deBruijn32tab", laid_math_bits_deBruijn32tab), ("math/bits.deBruijn64tab", laid_math_bits_deBruijn64tab)], narrowed := true }
def HeaderBackUptoSaid : Prop := headerBackUptoRow.holds Tryd.pinned (OpenSpec.upto headerBackSpec)

/-- 'shibbolethlaw05.HeaderCut', WHERE WHAT IT READS IS OF BULK AT MOST 1048576: true; the input reads as it did. -/
def headerCutUptoRow : OpenClaim := { program := "ytbcleckapamicaadoor", sum := "921c0ea70cecbb6177e38b928228df910f06c16976983fe907bd3b39d313b4dc", func := "shibboleth/shibbolethlaw05.HeaderCut", spec := "headerCut", unfollowed := true, recurses := true, named := ["math/bits.deBruijn32tab", "math/bits.deBruijn64tab"], apart := false, laid := [("math/bits.deBruijn32tab", laid_math_bits_deBruijn32tab), ("math/bits.deBruijn64tab", laid_math_bits_deBruijn64tab)], narrowed := true }
def HeaderCutUptoSaid : Prop := headerCutUptoRow.holds Tryd.pinned (OpenSpec.upto headerCutSpec)

/-- 'shibbolethlaw05.HeaderSplits', WHERE WHAT IT READS IS OF BULK AT MOST 1048576: true; the input reads as it did. -/
def headerSplitsUptoRow : OpenClaim := { program := "ytbcleckapamicaadoor", sum := "921c0ea70cecbb6177e38b928228df910f06c16976983fe907bd3b39d313b4dc", func := "shibboleth/shibbolethlaw05.HeaderSplits", spec := "headerSplits", unfollowed := true, recurses := true, named := ["math/bits.deBruijn32tab", "math/bits.deBruijn64tab"], apart := false, laid := [("math/bits.deBruijn32tab", laid_math_bits_deBruijn32tab), ("math/bits.deBruijn64tab", laid_math_bits_deBruijn64tab)], narrowed := true }
def HeaderSplitsUptoSaid : Prop := headerSplitsUptoRow.holds Tryd.pinned (OpenSpec.upto headerSplitsSpec)

/-- 'shibbolethlaw05.HeaderJoins', WHERE WHAT IT READS IS OF BULK AT MOST 1048576: true; the input reads as it did. -/
def headerJoinsUptoRow : OpenClaim := { program := "ytbcleckapamicaadoor", sum := "921c0ea70cecbb6177e38b928228df910f06c16976983fe907bd3b39d313b4dc", func := "shibboleth/shibbolethlaw05.HeaderJoins", spec := "headerJoins", unfollowed := true, recurses := true, named := ["math/bits.deBruijn32tab", "math/bits.deBruijn64tab"], apart := false, laid := [("math/bits.deBruijn32tab", laid_math_bits_deBruijn32tab), ("math/bits.deBruijn64tab", laid_math_bits_deBruijn64tab)], narrowed := true }
def HeaderJoinsUptoSaid : Prop := headerJoinsUptoRow.holds Tryd.pinned (OpenSpec.upto headerJoinsSpec)

/-- 'shibbolethlaw06.FrameReads', WHERE WHAT IT READS IS OF BULK AT MOST 1048576: true; the input reads as it did. -/
def frameReadsUptoRow : OpenClaim := { program := "ytbcleckapamicaadoor", sum := "921c0ea70cecbb6177e38b928228df910f06c16976983fe907bd3b39d313b4dc", func := "shibboleth/shibbolethlaw06.FrameReads", spec := "frameReads", unfollowed := true, recurses := true, named := ["math/bits.deBruijn32tab", "math/bits.deBruijn64tab"], apart := false, laid := [("math/bits.deBruijn32tab", laid_math_bits_deBruijn32tab), ("math/bits.deBruijn64tab", laid_math_bits_deBruijn64tab)], narrowed := true }
def FrameReadsUptoSaid : Prop := frameReadsUptoRow.holds Tryd.pinned (OpenSpec.upto frameReadsSpec)

/-- 'shibbolethlaw06.FrameBack', WHERE WHAT IT READS IS OF BULK AT MOST 1048576: true; the input reads as it did. -/
def frameBackUptoRow : OpenClaim := { program := "ytbcleckapamicaadoor", sum := "921c0ea70cecbb6177e38b928228df910f06c16976983fe907bd3b39d313b4dc", func := "shibboleth/shibbolethlaw06.FrameBack", spec := "frameBack", unfollowed := true, recurses := true, named := ["math/bits.deBruijn32tab", "math/bits.deBruijn64tab"], apart := false, laid := [("math/bits.deBruijn32tab", laid_math_bits_deBruijn32tab), ("math/bits.deBruijn64tab", laid_math_bits_deBruijn64tab)], narrowed := true }
def FrameBackUptoSaid : Prop := frameBackUptoRow.holds Tryd.pinned (OpenSpec.upto frameBackSpec)

/-- 'shibbolethlaw06.FrameAgain', WHERE WHAT IT READS IS OF BULK AT MOST 1048576: true; the input reads as it did. -/
def frameAgainUptoRow : OpenClaim := { program := "ytbcleckapamicaadoor", sum := "921c0ea70cecbb6177e38b928228df910f06c16976983fe907bd3b39d313b4dc", func := "shibboleth/shibbolethlaw06.FrameAgain", spec := "frameAgain", unfollowed := true, recurses := true, named := ["math/bits.deBruijn32tab", "math/bits.deBruijn64tab"], apart := false, laid := [("math/bits.deBruijn32tab", laid_math_bits_deBruijn32tab), ("math/bits.deBruijn64tab", laid_math_bits_deBruijn64tab)], narrowed := true }
def FrameAgainUptoSaid : Prop := frameAgainUptoRow.holds Tryd.pinned (OpenSpec.upto frameAgainSpec)

/-- 'shibbolethlaw06.FrameJoins', WHERE WHAT IT READS IS OF BULK AT MOST 1048576: true; the input reads as it did. -/
def frameJoinsUptoRow : OpenClaim := { program := "ytbcleckapamicaadoor", sum := "921c0ea70cecbb6177e38b928228df910f06c16976983fe907bd3b39d313b4dc", func := "shibboleth/shibbolethlaw06.FrameJoins", spec := "frameJoins", unfollowed := true, recurses := true, named := ["math/bits.deBruijn32tab", "math/bits.deBruijn64tab"], apart := false, laid := [("math/bits.deBruijn32tab", laid_math_bits_deBruijn32tab), ("math/bits.deBruijn64tab", laid_math_bits_deBruijn64tab)], narrowed := true }
def FrameJoinsUptoSaid : Prop := frameJoinsUptoRow.holds Tryd.pinned (OpenSpec.upto frameJoinsSpec)

/-- 'shibbolethlaw06.FrameKinds', WHERE WHAT IT READS IS OF BULK AT MOST 1048576: true; the input reads as it did. -/
def frameKindsUptoRow : OpenClaim := { program := "ytbcleckapamicaadoor", sum := "921c0ea70cecbb6177e38b928228df910f06c16976983fe907bd3b39d313b4dc", func := "shibboleth/shibbolethlaw06.FrameKinds", spec := "frameKinds", unfollowed := true, recurses := true, named := ["math/bits.deBruijn32tab", "math/bits.deBruijn64tab"], apart := false, laid := [("math/bits.deBruijn32tab", laid_math_bits_deBruijn32tab), ("math/bits.deBruijn64tab", laid_math_bits_deBruijn64tab)], narrowed := true }
def FrameKindsUptoSaid : Prop := frameKindsUptoRow.holds Tryd.pinned (OpenSpec.upto frameKindsSpec)

end Rows
end Go.Proofs.YtbcleckapamicaaDoor
