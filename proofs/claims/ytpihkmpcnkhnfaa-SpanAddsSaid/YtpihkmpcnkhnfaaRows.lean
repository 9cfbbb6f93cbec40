/-
  No cell of these rows narrows 'for every input' (looked for: loops, veiled, ifaces, maps, wideKeys, modest, calm, conditions, laid).
  DERIVED. THE GIVEN ROWS OF THIS SEAT. 4 by the template 'for every input the law returns true; each argument reads behind the call as it read before'; 0 by the template 'total and deterministic' (their statements: YtpihkmpcnkhnfaaTotals.lean).
  GIVEN WITH THE SEED: the statements are not yours to turn. If you find one false, say at which input.
  Laid BY PROGRAM, IN A SANDBOX (cutbox-rows.mjs): the forced cells as the released guide's own fill.sh prints them over the translation 0ae290622c80b751… (all of the seat's roots in one cut). By AI agents, Wed Nov 11 2026. No macro, syntax, notation, axiom, sorry.
-/
import Derived.Test.YtpihkmpcnkhnfaaChecked
import GoSem.Claim
import GoSem.ClaimJoined
import GoSem.ClaimMapViews
import Derived.JoinedTies
import Derived.KernelRfl
namespace Go.Proofs.Ytpihkmpcnkhnfaa
/- THE CELL 'sum', in the pinned program and in every row, IS THE sha256 OF THE DUMP (.gsa) THAT YtpihkmpcnkhnfaaProg.lean LOADS. Nothing in Lean hashes anything: it is a label: what it is worth is what the hold of that sum in a sandbox is worth. -/
noncomputable def Try.pinned : Pinned := { name := "ytpihkmpcnkhnfaa", sum := "0ae290622c80b75181d7e2b24f7e9f935dd630f66a44a59c382e712e998831aa", checked := Try.checked }
namespace Rows
def none {H : Type} : Left H := { results := [], args := [] }

/-- 'shibbolethlaw11.SpanOrder': WHATEVER THE INPUT: true; the input reads as it did. -/
def spanOrderSpec : ChangeSpec := { name := "spanOrder", fn := fun _ => fun
  | [d] => { results := [.lit (.bool true)], args := [d] }
  | _ => none }
def spanOrderRow : OpenClaim := { program := "ytpihkmpcnkhnfaa", sum := "0ae290622c80b75181d7e2b24f7e9f935dd630f66a44a59c382e712e998831aa", func := "shibboleth/shibbolethlaw11.SpanOrder", spec := "spanOrder", inPlace := ["slices.overlaps[shibboleth/frame.Span]"], unfollowed := true, recurses := true, apart := false }
def SpanOrderSaid : Prop := spanOrderRow.holds Try.pinned (OpenSpec.ofChange spanOrderSpec)

/-- ITS FALSE NEIGHBOUR: 'it returns false'. Refute it at one input. -/
def spanOrderWrong : ChangeSpec := { name := "spanOrder", fn := fun _ => fun
  | [d] => { results := [.lit (.bool false)], args := [d] }
  | _ => none }
def SpanOrderWrongFalsely : Prop := spanOrderRow.holds Try.pinned (OpenSpec.ofChange spanOrderWrong)

/-- 'shibbolethlaw11.SpanAdds': WHATEVER THE INPUT: true; the input reads as it did. -/
def spanAddsSpec : ChangeSpec := { name := "spanAdds", fn := fun _ => fun
  | [d1, d2] => { results := [.lit (.bool true)], args := [d1, d2] }
  | _ => none }
def spanAddsRow : OpenClaim := { program := "ytpihkmpcnkhnfaa", sum := "0ae290622c80b75181d7e2b24f7e9f935dd630f66a44a59c382e712e998831aa", func := "shibboleth/shibbolethlaw11.SpanAdds", spec := "spanAdds", inPlace := ["slices.overlaps[shibboleth/frame.Span]"], unfollowed := true, recurses := true, apart := false }
def SpanAddsSaid : Prop := spanAddsRow.holds Try.pinned (OpenSpec.ofChange spanAddsSpec)

/-- ITS FALSE NEIGHBOUR: 'it returns false'. Refute it at one input. -/
def spanAddsWrong : ChangeSpec := { name := "spanAdds", fn := fun _ => fun
  | [d1, d2] => { results := [.lit (.bool false)], args := [d1, d2] }
  | _ => none }
def SpanAddsWrongFalsely : Prop := spanAddsRow.holds Try.pinned (OpenSpec.ofChange spanAddsWrong)

/-- 'shibbolethlaw11.SpanRuns': WHATEVER THE INPUT: true; the input reads as it did. -/
def spanRunsSpec : ChangeSpec := { name := "spanRuns", fn := fun _ => fun
  | [d1, d2] => { results := [.lit (.bool true)], args := [d1, d2] }
  | _ => none }
def spanRunsRow : OpenClaim := { program := "ytpihkmpcnkhnfaa", sum := "0ae290622c80b75181d7e2b24f7e9f935dd630f66a44a59c382e712e998831aa", func := "shibboleth/shibbolethlaw11.SpanRuns", spec := "spanRuns", inPlace := ["slices.overlaps[shibboleth/frame.Span]"], unfollowed := true, recurses := true, apart := false }
def SpanRunsSaid : Prop := spanRunsRow.holds Try.pinned (OpenSpec.ofChange spanRunsSpec)

/-- ITS FALSE NEIGHBOUR: 'it returns false'. Refute it at one input. -/
def spanRunsWrong : ChangeSpec := { name := "spanRuns", fn := fun _ => fun
  | [d1, d2] => { results := [.lit (.bool false)], args := [d1, d2] }
  | _ => none }
def SpanRunsWrongFalsely : Prop := spanRunsRow.holds Try.pinned (OpenSpec.ofChange spanRunsWrong)

/-- 'shibbolethlaw11.SpanAcks': WHATEVER THE INPUT: true; the input reads as it did. -/
def spanAcksSpec : ChangeSpec := { name := "spanAcks", fn := fun _ => fun
  | [d] => { results := [.lit (.bool true)], args := [d] }
  | _ => none }
def spanAcksRow : OpenClaim := { program := "ytpihkmpcnkhnfaa", sum := "0ae290622c80b75181d7e2b24f7e9f935dd630f66a44a59c382e712e998831aa", func := "shibboleth/shibbolethlaw11.SpanAcks", spec := "spanAcks", inPlace := ["slices.overlaps[shibboleth/frame.Span]"], unfollowed := true, recurses := true, apart := false }
def SpanAcksSaid : Prop := spanAcksRow.holds Try.pinned (OpenSpec.ofChange spanAcksSpec)

/-- ITS FALSE NEIGHBOUR: 'it returns false'. Refute it at one input. -/
def spanAcksWrong : ChangeSpec := { name := "spanAcks", fn := fun _ => fun
  | [d] => { results := [.lit (.bool false)], args := [d] }
  | _ => none }
def SpanAcksWrongFalsely : Prop := spanAcksRow.holds Try.pinned (OpenSpec.ofChange spanAcksWrong)

/- THE SECOND FORM. 'bulk': how many values and letters a reading holds, each counted each time it is reached (what is shared counts as often as it is met; a slice's spare places count too). A statement '..UptoSaid' is the law's where the arguments, and the package variables that the reading takes, are together of bulk at most 1048576: NARROWER than '..Said'. Prove '..Said' where nothing that the law and all that it calls make is longer than what came in: it says more and counts as full. Else prove '..UptoSaid'. A law counts once. -/
mutual
def uptoBulk {H : Type} : DataW H → Nat
  | .lit (.string bytes) => bytes.length + 1
  | .lit _ => 1
  | .nil => 1
  | .ptr d => uptoBulk d + 1
  | .slice elems spare => uptoBulkAll elems + uptoBulkAll spare + 1
  | .agg parts => uptoBulkAll parts + 1
  | .iface _ d => uptoBulk d + 1
  | .map entries => uptoBulkEntries entries + 1
  | .held _ => 1
def uptoBulkAll {H : Type} : List (DataW H) → Nat
  | [] => 0
  | d :: r => uptoBulk d + uptoBulkAll r
def uptoBulkEntries {H : Type} : List (Lit × DataW H) → Nat
  | [] => 0
  | x :: r => uptoBulkEntry x + uptoBulkEntries r
def uptoBulkEntry {H : Type} : Lit × DataW H → Nat
  | (.string bytes, d) => bytes.length + uptoBulk d + 1
  | (_, d) => uptoBulk d + 1
 end
def uptoSmall : (H : Type) → List (DataW H) → Bool := fun _ ds => decide (uptoBulkAll ds ≤ 1048576)
def OpenSpec.upto (s : _root_.Go.ChangeSpec) : _root_.Go.OpenSpec := { _root_.Go.OpenSpec.ofChange s with cond := some uptoSmall }

/-- 'shibbolethlaw11.SpanOrder', WHERE WHAT IT READS IS OF BULK AT MOST 1048576: true; the input reads as it did. -/
def spanOrderUptoRow : OpenClaim := { program := "ytpihkmpcnkhnfaa", sum := "0ae290622c80b75181d7e2b24f7e9f935dd630f66a44a59c382e712e998831aa", func := "shibboleth/shibbolethlaw11.SpanOrder", spec := "spanOrder", inPlace := ["slices.overlaps[shibboleth/frame.Span]"], unfollowed := true, recurses := true, apart := false, narrowed := true }
def SpanOrderUptoSaid : Prop := spanOrderUptoRow.holds Try.pinned (OpenSpec.upto spanOrderSpec)

/-- 'shibbolethlaw11.SpanAdds', WHERE WHAT IT READS IS OF BULK AT MOST 1048576: true; the input reads as it did. -/
def spanAddsUptoRow : OpenClaim := { program := "ytpihkmpcnkhnfaa", sum := "0ae290622c80b75181d7e2b24f7e9f935dd630f66a44a59c382e712e998831aa", func := "shibboleth/shibbolethlaw11.SpanAdds", spec := "spanAdds", inPlace := ["slices.overlaps[shibboleth/frame.Span]"], unfollowed := true, recurses := true, apart := false, narrowed := true }
def SpanAddsUptoSaid : Prop := spanAddsUptoRow.holds Try.pinned (OpenSpec.upto spanAddsSpec)

/-- 'shibbolethlaw11.SpanRuns', WHERE WHAT IT READS IS OF BULK AT MOST 1048576: true; the input reads as it did. -/
def spanRunsUptoRow : OpenClaim := { program := "ytpihkmpcnkhnfaa", sum := "0ae290622c80b75181d7e2b24f7e9f935dd630f66a44a59c382e712e998831aa", func := "shibboleth/shibbolethlaw11.SpanRuns", spec := "spanRuns", inPlace := ["slices.overlaps[shibboleth/frame.Span]"], unfollowed := true, recurses := true, apart := false, narrowed := true }
def SpanRunsUptoSaid : Prop := spanRunsUptoRow.holds Try.pinned (OpenSpec.upto spanRunsSpec)

/-- 'shibbolethlaw11.SpanAcks', WHERE WHAT IT READS IS OF BULK AT MOST 1048576: true; the input reads as it did. -/
def spanAcksUptoRow : OpenClaim := { program := "ytpihkmpcnkhnfaa", sum := "0ae290622c80b75181d7e2b24f7e9f935dd630f66a44a59c382e712e998831aa", func := "shibboleth/shibbolethlaw11.SpanAcks", spec := "spanAcks", inPlace := ["slices.overlaps[shibboleth/frame.Span]"], unfollowed := true, recurses := true, apart := false, narrowed := true }
def SpanAcksUptoSaid : Prop := spanAcksUptoRow.holds Try.pinned (OpenSpec.upto spanAcksSpec)

end Rows
end Go.Proofs.Ytpihkmpcnkhnfaa
