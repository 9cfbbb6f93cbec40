/-
  DERIVED. GIVEN WITH THE SEED: THE CARDS: each row of YtbcleckapamicaaDoorRows.lean that lists a variable, with what it lists TIED to the program's text (the seventh form; the later family's looks); each row that meets fmt, with fmt's text TOLD by the authors' own Lean function (tested against real Go, not proved from fmt's source: count such statements apart). THE CARD IS WHAT COUNTS. Prove the row's statement (the work); the ties are given (YtbcleckapamicaaDoorTie.lean); close each card by the builder's one call (the guide's Derived/Test/ToyasCard.lean, 'card_holds'). Laid BY PROGRAM, IN A SANDBOX (cutbox-door.mjs). By AI agents, Wed Nov 11 2026. No macro, syntax, notation, axiom, sorry.
-/
import Derived.Test.YtbcleckapamicaaDoorRows
import GoSem.ClaimSeven
namespace Go.Proofs.YtbcleckapamicaaDoor
namespace Rows

/-- THE TIED CARD OF 'shibbolethlaw01.VarintWrites'. -/
def varintWritesCard : Claim7 := { stood := { row := varintWritesRow, standIns := [], harness := (true, "a92992abae9a7faf473446de595c24795e0800cca3beedcf787efacb10ad6474"), looks := true }, kinds := [], alts := [], laidByText := true, laidKinds := [.data, .data], laidTests := true, laidLooks := .later }
def VarintWritesCardSaid : Prop := Claim7.holds Tryd.pinned (.plain (OpenSpec.ofChange varintWritesSpec)) varintWritesCard

/-- THE TIED CARD OF 'shibbolethlaw01.VarintReads'. -/
def varintReadsCard : Claim7 := { stood := { row := varintReadsRow, standIns := [], harness := (true, "a92992abae9a7faf473446de595c24795e0800cca3beedcf787efacb10ad6474"), looks := true }, kinds := [], alts := [], laidByText := true, laidKinds := [.data, .data], laidTests := true, laidLooks := .later }
def VarintReadsCardSaid : Prop := Claim7.holds Tryd.pinned (.plain (OpenSpec.ofChange varintReadsSpec)) varintReadsCard

/-- THE TIED CARD OF 'shibbolethlaw01.VarintBack'. -/
def varintBackCard : Claim7 := { stood := { row := varintBackRow, standIns := [], harness := (true, "a92992abae9a7faf473446de595c24795e0800cca3beedcf787efacb10ad6474"), looks := true }, kinds := [], alts := [], laidByText := true, laidKinds := [.data, .data], laidTests := true, laidLooks := .later }
def VarintBackCardSaid : Prop := Claim7.holds Tryd.pinned (.plain (OpenSpec.ofChange varintBackSpec)) varintBackCard

/-- THE TIED CARD OF 'shibbolethlaw01.VarintShort'. -/
def varintShortCard : Claim7 := { stood := { row := varintShortRow, standIns := [], harness := (true, "a92992abae9a7faf473446de595c24795e0800cca3beedcf787efacb10ad6474"), looks := true }, kinds := [], alts := [], laidByText := true, laidKinds := [.data, .data], laidTests := true, laidLooks := .later }
def VarintShortCardSaid : Prop := Claim7.holds Tryd.pinned (.plain (OpenSpec.ofChange varintShortSpec)) varintShortCard

/-- THE TIED CARD OF 'shibbolethlaw01.VarintTakes'. -/
def varintTakesCard : Claim7 := { stood := { row := varintTakesRow, standIns := [], harness := (true, "a92992abae9a7faf473446de595c24795e0800cca3beedcf787efacb10ad6474"), looks := true }, kinds := [], alts := [], laidByText := true, laidKinds := [.data, .data], laidTests := true, laidLooks := .later }
def VarintTakesCardSaid : Prop := Claim7.holds Tryd.pinned (.plain (OpenSpec.ofChange varintTakesSpec)) varintTakesCard

/-- THE TIED CARD OF 'shibbolethlaw01.VarintGives'. -/
def varintGivesCard : Claim7 := { stood := { row := varintGivesRow, standIns := [], harness := (true, "a92992abae9a7faf473446de595c24795e0800cca3beedcf787efacb10ad6474"), looks := true }, kinds := [], alts := [], laidByText := true, laidKinds := [.data, .data], laidTests := true, laidLooks := .later }
def VarintGivesCardSaid : Prop := Claim7.holds Tryd.pinned (.plain (OpenSpec.ofChange varintGivesSpec)) varintGivesCard

/-- THE TIED CARD OF 'shibbolethlaw05.HeaderWrites'. -/
def headerWritesCard : Claim7 := { stood := { row := headerWritesRow, standIns := [], harness := (true, "a92992abae9a7faf473446de595c24795e0800cca3beedcf787efacb10ad6474"), looks := true }, kinds := [], alts := [], laidByText := true, laidKinds := [.data, .data], laidTests := true, laidLooks := .later }
def HeaderWritesCardSaid : Prop := Claim7.holds Tryd.pinned (.plain (OpenSpec.ofChange headerWritesSpec)) headerWritesCard

/-- THE TIED CARD OF 'shibbolethlaw06.FrameWrites'. -/
def frameWritesCard : Claim7 := { stood := { row := frameWritesRow, standIns := [], harness := (true, "a92992abae9a7faf473446de595c24795e0800cca3beedcf787efacb10ad6474"), looks := true }, kinds := [], alts := [], laidByText := true, laidKinds := [.data, .data], laidTests := true, laidLooks := .later }
def FrameWritesCardSaid : Prop := Claim7.holds Tryd.pinned (.plain (OpenSpec.ofChange frameWritesSpec)) frameWritesCard

/-- THE TIED CARD OF 'shibbolethlaw05.HeaderReads'. -/
def headerReadsCard : Claim7 := { stood := { row := headerReadsRow, standIns := [], harness := (true, "a92992abae9a7faf473446de595c24795e0800cca3beedcf787efacb10ad6474"), looks := true }, kinds := [], alts := [], laidByText := true, laidKinds := [.data, .data], laidTests := true, laidLooks := .later }
def HeaderReadsCardSaid : Prop := Claim7.holds Tryd.pinned (.plain (OpenSpec.ofChange headerReadsSpec)) headerReadsCard

/-- THE TIED CARD OF 'shibbolethlaw05.HeaderBack'. -/
def headerBackCard : Claim7 := { stood := { row := headerBackRow, standIns := [], harness := (true, "a92992abae9a7faf473446de595c24795e0800cca3beedcf787efacb10ad6474"), looks := true }, kinds := [], alts := [], laidByText := true, laidKinds := [.data, .data], laidTests := true, laidLooks := .later }
def HeaderBackCardSaid : Prop := Claim7.holds Tryd.pinned (.plain (OpenSpec.ofChange headerBackSpec)) headerBackCard

/-- THE TIED CARD OF 'shibbolethlaw05.HeaderCut'. -/
def headerCutCard : Claim7 := { stood := { row := headerCutRow, standIns := [], harness := (true, "a92992abae9a7faf473446de595c24795e0800cca3beedcf787efacb10ad6474"), looks := true }, kinds := [], alts := [], laidByText := true, laidKinds := [.data, .data], laidTests := true, laidLooks := .later }
def HeaderCutCardSaid : Prop := Claim7.holds Tryd.pinned (.plain (OpenSpec.ofChange headerCutSpec)) headerCutCard

/-- THE TIED CARD OF 'shibbolethlaw05.HeaderSplits'. -/
def headerSplitsCard : Claim7 := { stood := { row := headerSplitsRow, standIns := [], harness := (true, "a92992abae9a7faf473446de595c24795e0800cca3beedcf787efacb10ad6474"), looks := true }, kinds := [], alts := [], laidByText := true, laidKinds := [.data, .data], laidTests := true, laidLooks := .later }
def HeaderSplitsCardSaid : Prop := Claim7.holds Tryd.pinned (.plain (OpenSpec.ofChange headerSplitsSpec)) headerSplitsCard

/-- THE TIED CARD OF 'shibbolethlaw05.HeaderJoins'. -/
def headerJoinsCard : Claim7 := { stood := { row := headerJoinsRow, standIns := [], harness := (true, "a92992abae9a7faf473446de595c24795e0800cca3beedcf787efacb10ad6474"), looks := true }, kinds := [], alts := [], laidByText := true, laidKinds := [.data, .data], laidTests := true, laidLooks := .later }
def HeaderJoinsCardSaid : Prop := Claim7.holds Tryd.pinned (.plain (OpenSpec.ofChange headerJoinsSpec)) headerJoinsCard

/-- THE TIED CARD OF 'shibbolethlaw06.FrameReads'. -/
def frameReadsCard : Claim7 := { stood := { row := frameReadsRow, standIns := [], harness := (true, "a92992abae9a7faf473446de595c24795e0800cca3beedcf787efacb10ad6474"), looks := true }, kinds := [], alts := [], laidByText := true, laidKinds := [.data, .data], laidTests := true, laidLooks := .later }
def FrameReadsCardSaid : Prop := Claim7.holds Tryd.pinned (.plain (OpenSpec.ofChange frameReadsSpec)) frameReadsCard

/-- THE TIED CARD OF 'shibbolethlaw06.FrameBack'. -/
def frameBackCard : Claim7 := { stood := { row := frameBackRow, standIns := [], harness := (true, "a92992abae9a7faf473446de595c24795e0800cca3beedcf787efacb10ad6474"), looks := true }, kinds := [], alts := [], laidByText := true, laidKinds := [.data, .data], laidTests := true, laidLooks := .later }
def FrameBackCardSaid : Prop := Claim7.holds Tryd.pinned (.plain (OpenSpec.ofChange frameBackSpec)) frameBackCard

/-- THE TIED CARD OF 'shibbolethlaw06.FrameAgain'. -/
def frameAgainCard : Claim7 := { stood := { row := frameAgainRow, standIns := [], harness := (true, "a92992abae9a7faf473446de595c24795e0800cca3beedcf787efacb10ad6474"), looks := true }, kinds := [], alts := [], laidByText := true, laidKinds := [.data, .data], laidTests := true, laidLooks := .later }
def FrameAgainCardSaid : Prop := Claim7.holds Tryd.pinned (.plain (OpenSpec.ofChange frameAgainSpec)) frameAgainCard

/-- THE TIED CARD OF 'shibbolethlaw06.FrameJoins'. -/
def frameJoinsCard : Claim7 := { stood := { row := frameJoinsRow, standIns := [], harness := (true, "a92992abae9a7faf473446de595c24795e0800cca3beedcf787efacb10ad6474"), looks := true }, kinds := [], alts := [], laidByText := true, laidKinds := [.data, .data], laidTests := true, laidLooks := .later }
def FrameJoinsCardSaid : Prop := Claim7.holds Tryd.pinned (.plain (OpenSpec.ofChange frameJoinsSpec)) frameJoinsCard

/-- THE TIED CARD OF 'shibbolethlaw06.FrameKinds'. -/
def frameKindsCard : Claim7 := { stood := { row := frameKindsRow, standIns := [], harness := (true, "a92992abae9a7faf473446de595c24795e0800cca3beedcf787efacb10ad6474"), looks := true }, kinds := [], alts := [], laidByText := true, laidKinds := [.data, .data], laidTests := true, laidLooks := .later }
def FrameKindsCardSaid : Prop := Claim7.holds Tryd.pinned (.plain (OpenSpec.ofChange frameKindsSpec)) frameKindsCard

/-- THE SECOND FORM's CARD OF 'shibbolethlaw01.VarintWrites'. -/
def varintWritesUptoCard : Claim7 := { stood := { row := varintWritesUptoRow, standIns := [], harness := (true, "a92992abae9a7faf473446de595c24795e0800cca3beedcf787efacb10ad6474"), looks := true }, kinds := [], alts := [], laidByText := true, laidKinds := [.data, .data], laidTests := true, laidLooks := .later }
def VarintWritesUptoCardSaid : Prop := Claim7.holds Tryd.pinned (.plain (OpenSpec.upto varintWritesSpec)) varintWritesUptoCard

/-- THE SECOND FORM's CARD OF 'shibbolethlaw01.VarintReads'. -/
def varintReadsUptoCard : Claim7 := { stood := { row := varintReadsUptoRow, standIns := [], harness := (true, "a92992abae9a7faf473446de595c24795e0800cca3beedcf787efacb10ad6474"), looks := true }, kinds := [], alts := [], laidByText := true, laidKinds := [.data, .data], laidTests := true, laidLooks := .later }
def VarintReadsUptoCardSaid : Prop := Claim7.holds Tryd.pinned (.plain (OpenSpec.upto varintReadsSpec)) varintReadsUptoCard

/-- THE SECOND FORM's CARD OF 'shibbolethlaw01.VarintBack'. -/
def varintBackUptoCard : Claim7 := { stood := { row := varintBackUptoRow, standIns := [], harness := (true, "a92992abae9a7faf473446de595c24795e0800cca3beedcf787efacb10ad6474"), looks := true }, kinds := [], alts := [], laidByText := true, laidKinds := [.data, .data], laidTests := true, laidLooks := .later }
def VarintBackUptoCardSaid : Prop := Claim7.holds Tryd.pinned (.plain (OpenSpec.upto varintBackSpec)) varintBackUptoCard

/-- THE SECOND FORM's CARD OF 'shibbolethlaw01.VarintShort'. -/
def varintShortUptoCard : Claim7 := { stood := { row := varintShortUptoRow, standIns := [], harness := (true, "a92992abae9a7faf473446de595c24795e0800cca3beedcf787efacb10ad6474"), looks := true }, kinds := [], alts := [], laidByText := true, laidKinds := [.data, .data], laidTests := true, laidLooks := .later }
def VarintShortUptoCardSaid : Prop := Claim7.holds Tryd.pinned (.plain (OpenSpec.upto varintShortSpec)) varintShortUptoCard

/-- THE SECOND FORM's CARD OF 'shibbolethlaw01.VarintTakes'. -/
def varintTakesUptoCard : Claim7 := { stood := { row := varintTakesUptoRow, standIns := [], harness := (true, "a92992abae9a7faf473446de595c24795e0800cca3beedcf787efacb10ad6474"), looks := true }, kinds := [], alts := [], laidByText := true, laidKinds := [.data, .data], laidTests := true, laidLooks := .later }
def VarintTakesUptoCardSaid : Prop := Claim7.holds Tryd.pinned (.plain (OpenSpec.upto varintTakesSpec)) varintTakesUptoCard

/-- THE SECOND FORM's CARD OF 'shibbolethlaw01.VarintGives'. -/
def varintGivesUptoCard : Claim7 := { stood := { row := varintGivesUptoRow, standIns := [], harness := (true, "a92992abae9a7faf473446de595c24795e0800cca3beedcf787efacb10ad6474"), looks := true }, kinds := [], alts := [], laidByText := true, laidKinds := [.data, .data], laidTests := true, laidLooks := .later }
def VarintGivesUptoCardSaid : Prop := Claim7.holds Tryd.pinned (.plain (OpenSpec.upto varintGivesSpec)) varintGivesUptoCard

/-- THE SECOND FORM's CARD OF 'shibbolethlaw05.HeaderWrites'. -/
def headerWritesUptoCard : Claim7 := { stood := { row := headerWritesUptoRow, standIns := [], harness := (true, "a92992abae9a7faf473446de595c24795e0800cca3beedcf787efacb10ad6474"), looks := true }, kinds := [], alts := [], laidByText := true, laidKinds := [.data, .data], laidTests := true, laidLooks := .later }
def HeaderWritesUptoCardSaid : Prop := Claim7.holds Tryd.pinned (.plain (OpenSpec.upto headerWritesSpec)) headerWritesUptoCard

/-- THE SECOND FORM's CARD OF 'shibbolethlaw06.FrameWrites'. -/
def frameWritesUptoCard : Claim7 := { stood := { row := frameWritesUptoRow, standIns := [], harness := (true, "a92992abae9a7faf473446de595c24795e0800cca3beedcf787efacb10ad6474"), looks := true }, kinds := [], alts := [], laidByText := true, laidKinds := [.data, .data], laidTests := true, laidLooks := .later }
def FrameWritesUptoCardSaid : Prop := Claim7.holds Tryd.pinned (.plain (OpenSpec.upto frameWritesSpec)) frameWritesUptoCard

/-- THE SECOND FORM's CARD OF 'shibbolethlaw05.HeaderReads'. -/
def headerReadsUptoCard : Claim7 := { stood := { row := headerReadsUptoRow, standIns := [], harness := (true, "a92992abae9a7faf473446de595c24795e0800cca3beedcf787efacb10ad6474"), looks := true }, kinds := [], alts := [], laidByText := true, laidKinds := [.data, .data], laidTests := true, laidLooks := .later }
def HeaderReadsUptoCardSaid : Prop := Claim7.holds Tryd.pinned (.plain (OpenSpec.upto headerReadsSpec)) headerReadsUptoCard

/-- THE SECOND FORM's CARD OF 'shibbolethlaw05.HeaderBack'. -/
def headerBackUptoCard : Claim7 := { stood := { row := headerBackUptoRow, standIns := [], harness := (true, "a92992abae9a7faf473446de595c24795e0800cca3beedcf787efacb10ad6474"), looks := true }, kinds := [], alts := [], laidByText := true, laidKinds := [.data, .data], laidTests := true, laidLooks := .later }
def HeaderBackUptoCardSaid : Prop := Claim7.holds Tryd.pinned (.plain (OpenSpec.upto headerBackSpec)) headerBackUptoCard

/-- THE SECOND FORM's CARD OF 'shibbolethlaw05.HeaderCut'. -/
def headerCutUptoCard : Claim7 := { stood := { row := headerCutUptoRow, standIns := [], harness := (true, "a92992abae9a7faf473446de595c24795e0800cca3beedcf787efacb10ad6474"), looks := true }, kinds := [], alts := [], laidByText := true, laidKinds := [.data, .data], laidTests := true, laidLooks := .later }
def HeaderCutUptoCardSaid : Prop := Claim7.holds Tryd.pinned (.plain (OpenSpec.upto headerCutSpec)) headerCutUptoCard

/-- THE SECOND FORM's CARD OF 'shibbolethlaw05.HeaderSplits'. -/
def headerSplitsUptoCard : Claim7 := { stood := { row := headerSplitsUptoRow, standIns := [], harness := (true, "a92992abae9a7faf473446de595c24795e0800cca3beedcf787efacb10ad6474"), looks := true }, kinds := [], alts := [], laidByText := true, laidKinds := [.data, .data], laidTests := true, laidLooks := .later }
def HeaderSplitsUptoCardSaid : Prop := Claim7.holds Tryd.pinned (.plain (OpenSpec.upto headerSplitsSpec)) headerSplitsUptoCard

/-- THE SECOND FORM's CARD OF 'shibbolethlaw05.HeaderJoins'. -/
def headerJoinsUptoCard : Claim7 := { stood := { row := headerJoinsUptoRow, standIns := [], harness := (true, "a92992abae9a7faf473446de595c24795e0800cca3beedcf787efacb10ad6474"), looks := true }, kinds := [], alts := [], laidByText := true, laidKinds := [.data, .data], laidTests := true, laidLooks := .later }
def HeaderJoinsUptoCardSaid : Prop := Claim7.holds Tryd.pinned (.plain (OpenSpec.upto headerJoinsSpec)) headerJoinsUptoCard

/-- THE SECOND FORM's CARD OF 'shibbolethlaw06.FrameReads'. -/
def frameReadsUptoCard : Claim7 := { stood := { row := frameReadsUptoRow, standIns := [], harness := (true, "a92992abae9a7faf473446de595c24795e0800cca3beedcf787efacb10ad6474"), looks := true }, kinds := [], alts := [], laidByText := true, laidKinds := [.data, .data], laidTests := true, laidLooks := .later }
def FrameReadsUptoCardSaid : Prop := Claim7.holds Tryd.pinned (.plain (OpenSpec.upto frameReadsSpec)) frameReadsUptoCard

/-- THE SECOND FORM's CARD OF 'shibbolethlaw06.FrameBack'. -/
def frameBackUptoCard : Claim7 := { stood := { row := frameBackUptoRow, standIns := [], harness := (true, "a92992abae9a7faf473446de595c24795e0800cca3beedcf787efacb10ad6474"), looks := true }, kinds := [], alts := [], laidByText := true, laidKinds := [.data, .data], laidTests := true, laidLooks := .later }
def FrameBackUptoCardSaid : Prop := Claim7.holds Tryd.pinned (.plain (OpenSpec.upto frameBackSpec)) frameBackUptoCard

/-- THE SECOND FORM's CARD OF 'shibbolethlaw06.FrameAgain'. -/
def frameAgainUptoCard : Claim7 := { stood := { row := frameAgainUptoRow, standIns := [], harness := (true, "a92992abae9a7faf473446de595c24795e0800cca3beedcf787efacb10ad6474"), looks := true }, kinds := [], alts := [], laidByText := true, laidKinds := [.data, .data], laidTests := true, laidLooks := .later }
def FrameAgainUptoCardSaid : Prop := Claim7.holds Tryd.pinned (.plain (OpenSpec.upto frameAgainSpec)) frameAgainUptoCard

/-- THE SECOND FORM's CARD OF 'shibbolethlaw06.FrameJoins'. -/
def frameJoinsUptoCard : Claim7 := { stood := { row := frameJoinsUptoRow, standIns := [], harness := (true, "a92992abae9a7faf473446de595c24795e0800cca3beedcf787efacb10ad6474"), looks := true }, kinds := [], alts := [], laidByText := true, laidKinds := [.data, .data], laidTests := true, laidLooks := .later }
def FrameJoinsUptoCardSaid : Prop := Claim7.holds Tryd.pinned (.plain (OpenSpec.upto frameJoinsSpec)) frameJoinsUptoCard

/-- THE SECOND FORM's CARD OF 'shibbolethlaw06.FrameKinds'. -/
def frameKindsUptoCard : Claim7 := { stood := { row := frameKindsUptoRow, standIns := [], harness := (true, "a92992abae9a7faf473446de595c24795e0800cca3beedcf787efacb10ad6474"), looks := true }, kinds := [], alts := [], laidByText := true, laidKinds := [.data, .data], laidTests := true, laidLooks := .later }
def FrameKindsUptoCardSaid : Prop := Claim7.holds Tryd.pinned (.plain (OpenSpec.upto frameKindsSpec)) frameKindsUptoCard
end Rows
end Go.Proofs.YtbcleckapamicaaDoor
