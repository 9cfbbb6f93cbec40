/-
  DERIVED. GIVEN WITH THE SEED: THE CARDS: each row of YtpihkmpcnkhnfaaDoorRows.lean that lists a variable, with what it lists TIED to the program's text (the seventh form; the later family's looks); each row that meets fmt, with fmt's text TOLD by the authors' own Lean function (tested against real Go, not proved from fmt's source: count such statements apart). THE CARD IS WHAT COUNTS. Prove the row's statement (the work); the ties are given (YtpihkmpcnkhnfaaDoorTie.lean); close each card by the builder's one call (the guide's Derived/Test/ToyasCard.lean, 'card_holds'). Laid BY PROGRAM, IN A SANDBOX (cutbox-door.mjs). By AI agents, Wed Nov 11 2026. No macro, syntax, notation, axiom, sorry.
-/
import Derived.Test.YtpihkmpcnkhnfaaDoorRows
import GoSem.ClaimSeven
namespace Go.Proofs.YtpihkmpcnkhnfaaDoor
namespace Rows

/-- THE TIED CARD OF 'shibbolethlaw05.HeaderSplits'. -/
def headerSplitsCard : Claim7 := { stood := { row := headerSplitsRow, standIns := [], harness := (true, "e4b4559173637b86b7f573f80954eae9fcc9a650e0a7595644907919904e9c3b"), looks := true }, kinds := [], alts := [], laidByText := true, laidKinds := [.data, .data], laidTests := true, laidLooks := .later }
def HeaderSplitsCardSaid : Prop := Claim7.holds Tryd.pinned (.plain (OpenSpec.ofChange headerSplitsSpec)) headerSplitsCard

/-- THE TIED CARD OF 'shibbolethlaw05.HeaderJoins'. -/
def headerJoinsCard : Claim7 := { stood := { row := headerJoinsRow, standIns := [], harness := (true, "e4b4559173637b86b7f573f80954eae9fcc9a650e0a7595644907919904e9c3b"), looks := true }, kinds := [], alts := [], laidByText := true, laidKinds := [.data, .data], laidTests := true, laidLooks := .later }
def HeaderJoinsCardSaid : Prop := Claim7.holds Tryd.pinned (.plain (OpenSpec.ofChange headerJoinsSpec)) headerJoinsCard

/-- THE SECOND FORM's CARD OF 'shibbolethlaw05.HeaderSplits'. -/
def headerSplitsUptoCard : Claim7 := { stood := { row := headerSplitsUptoRow, standIns := [], harness := (true, "e4b4559173637b86b7f573f80954eae9fcc9a650e0a7595644907919904e9c3b"), looks := true }, kinds := [], alts := [], laidByText := true, laidKinds := [.data, .data], laidTests := true, laidLooks := .later }
def HeaderSplitsUptoCardSaid : Prop := Claim7.holds Tryd.pinned (.plain (OpenSpec.upto headerSplitsSpec)) headerSplitsUptoCard

/-- THE SECOND FORM's CARD OF 'shibbolethlaw05.HeaderJoins'. -/
def headerJoinsUptoCard : Claim7 := { stood := { row := headerJoinsUptoRow, standIns := [], harness := (true, "e4b4559173637b86b7f573f80954eae9fcc9a650e0a7595644907919904e9c3b"), looks := true }, kinds := [], alts := [], laidByText := true, laidKinds := [.data, .data], laidTests := true, laidLooks := .later }
def HeaderJoinsUptoCardSaid : Prop := Claim7.holds Tryd.pinned (.plain (OpenSpec.upto headerJoinsSpec)) headerJoinsUptoCard
end Rows
end Go.Proofs.YtpihkmpcnkhnfaaDoor
