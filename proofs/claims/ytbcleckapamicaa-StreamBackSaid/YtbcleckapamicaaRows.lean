/-
  No cell of these rows narrows 'for every input' (looked for: loops, veiled, ifaces, maps, wideKeys, modest, calm, conditions, laid).
  DERIVED. THE GIVEN ROWS OF THIS SEAT. 13 by the template 'for every input the law returns true; each argument reads behind the call as it read before'; 0 by the template 'total and deterministic' (their statements: YtbcleckapamicaaTotals.lean).
  GIVEN WITH THE SEED: the statements are not yours to turn. If you find one false, say at which input.
  Laid BY PROGRAM, IN A SANDBOX (cutbox-rows.mjs): the forced cells as the released guide's own fill.sh prints them over the translation 2826cf946dc8f932… (all of the seat's roots in one cut). By AI agents, Wed Nov 11 2026. No macro, syntax, notation, axiom, sorry.
-/
import Derived.Test.YtbcleckapamicaaChecked
import GoSem.Claim
import GoSem.ClaimJoined
import GoSem.ClaimMapViews
import Derived.JoinedTies
import Derived.KernelRfl
namespace Go.Proofs.Ytbcleckapamicaa
/- THE CELL 'sum', in the pinned program and in every row, IS THE sha256 OF THE DUMP (.gsa) THAT YtbcleckapamicaaProg.lean LOADS. Nothing in Lean hashes anything: it is a label: what it is worth is what the hold of that sum in a sandbox is worth. -/
noncomputable def Try.pinned : Pinned := { name := "ytbcleckapamicaa", sum := "2826cf946dc8f9325efeab5d1d96d7c2036a602d63210498e3492b91f3e8dc82", checked := Try.checked }
namespace Rows
def none {H : Type} : Left H := { results := [], args := [] }

/-- 'shibbolethlaw19.ChooseBoth': WHATEVER THE INPUT: true; the input reads as it did. -/
def chooseBothSpec : ChangeSpec := { name := "chooseBoth", fn := fun _ => fun
  | [d1, d2] => { results := [.lit (.bool true)], args := [d1, d2] }
  | _ => none }
def chooseBothRow : OpenClaim := { program := "ytbcleckapamicaa", sum := "2826cf946dc8f9325efeab5d1d96d7c2036a602d63210498e3492b91f3e8dc82", func := "shibboleth/shibbolethlaw19.ChooseBoth", spec := "chooseBoth", unfollowed := true, recurses := true, apart := false }
def ChooseBothSaid : Prop := chooseBothRow.holds Try.pinned (OpenSpec.ofChange chooseBothSpec)

/-- ITS FALSE NEIGHBOUR: 'it returns false'. Refute it at one input. -/
def chooseBothWrong : ChangeSpec := { name := "chooseBoth", fn := fun _ => fun
  | [d1, d2] => { results := [.lit (.bool false)], args := [d1, d2] }
  | _ => none }
def ChooseBothWrongFalsely : Prop := chooseBothRow.holds Try.pinned (OpenSpec.ofChange chooseBothWrong)

/-- 'shibbolethlaw19.ChoosePicks': WHATEVER THE INPUT: true; the input reads as it did. -/
def choosePicksSpec : ChangeSpec := { name := "choosePicks", fn := fun _ => fun
  | [d1, d2, d3] => { results := [.lit (.bool true)], args := [d1, d2, d3] }
  | _ => none }
def choosePicksRow : OpenClaim := { program := "ytbcleckapamicaa", sum := "2826cf946dc8f9325efeab5d1d96d7c2036a602d63210498e3492b91f3e8dc82", func := "shibboleth/shibbolethlaw19.ChoosePicks", spec := "choosePicks", unfollowed := true, recurses := true, apart := false }
def ChoosePicksSaid : Prop := choosePicksRow.holds Try.pinned (OpenSpec.ofChange choosePicksSpec)

/-- ITS FALSE NEIGHBOUR: 'it returns false'. Refute it at one input. -/
def choosePicksWrong : ChangeSpec := { name := "choosePicks", fn := fun _ => fun
  | [d1, d2, d3] => { results := [.lit (.bool false)], args := [d1, d2, d3] }
  | _ => none }
def ChoosePicksWrongFalsely : Prop := choosePicksRow.holds Try.pinned (OpenSpec.ofChange choosePicksWrong)

/-- 'shibbolethlaw19.ChooseVerifies': WHATEVER THE INPUT: true; the input reads as it did. -/
def chooseVerifiesSpec : ChangeSpec := { name := "chooseVerifies", fn := fun _ => fun
  | [d] => { results := [.lit (.bool true)], args := [d] }
  | _ => none }
def chooseVerifiesRow : OpenClaim := { program := "ytbcleckapamicaa", sum := "2826cf946dc8f9325efeab5d1d96d7c2036a602d63210498e3492b91f3e8dc82", func := "shibboleth/shibbolethlaw19.ChooseVerifies", spec := "chooseVerifies", unfollowed := true, recurses := true, apart := false }
def ChooseVerifiesSaid : Prop := chooseVerifiesRow.holds Try.pinned (OpenSpec.ofChange chooseVerifiesSpec)

/-- ITS FALSE NEIGHBOUR: 'it returns false'. Refute it at one input. -/
def chooseVerifiesWrong : ChangeSpec := { name := "chooseVerifies", fn := fun _ => fun
  | [d] => { results := [.lit (.bool false)], args := [d] }
  | _ => none }
def ChooseVerifiesWrongFalsely : Prop := chooseVerifiesRow.holds Try.pinned (OpenSpec.ofChange chooseVerifiesWrong)

/-- 'shibbolethlaw13.StreamActs': WHATEVER THE INPUT: true; the input reads as it did. -/
def streamActsSpec : ChangeSpec := { name := "streamActs", fn := fun _ => fun
  | [d] => { results := [.lit (.bool true)], args := [d] }
  | _ => none }
def streamActsRow : OpenClaim := { program := "ytbcleckapamicaa", sum := "2826cf946dc8f9325efeab5d1d96d7c2036a602d63210498e3492b91f3e8dc82", func := "shibboleth/shibbolethlaw13.StreamActs", spec := "streamActs", apart := false }
def StreamActsSaid : Prop := streamActsRow.holds Try.pinned (OpenSpec.ofChange streamActsSpec)

/-- ITS FALSE NEIGHBOUR: 'it returns false'. Refute it at one input. -/
def streamActsWrong : ChangeSpec := { name := "streamActs", fn := fun _ => fun
  | [d] => { results := [.lit (.bool false)], args := [d] }
  | _ => none }
def StreamActsWrongFalsely : Prop := streamActsRow.holds Try.pinned (OpenSpec.ofChange streamActsWrong)

/-- 'shibbolethlaw13.StreamFar': WHATEVER THE INPUT: true; the input reads as it did. -/
def streamFarSpec : ChangeSpec := { name := "streamFar", fn := fun _ => fun
  | [d1, d2] => { results := [.lit (.bool true)], args := [d1, d2] }
  | _ => none }
def streamFarRow : OpenClaim := { program := "ytbcleckapamicaa", sum := "2826cf946dc8f9325efeab5d1d96d7c2036a602d63210498e3492b91f3e8dc82", func := "shibboleth/shibbolethlaw13.StreamFar", spec := "streamFar", apart := false }
def StreamFarSaid : Prop := streamFarRow.holds Try.pinned (OpenSpec.ofChange streamFarSpec)

/-- ITS FALSE NEIGHBOUR: 'it returns false'. Refute it at one input. -/
def streamFarWrong : ChangeSpec := { name := "streamFar", fn := fun _ => fun
  | [d1, d2] => { results := [.lit (.bool false)], args := [d1, d2] }
  | _ => none }
def StreamFarWrongFalsely : Prop := streamFarRow.holds Try.pinned (OpenSpec.ofChange streamFarWrong)

/-- 'shibbolethlaw13.StreamOrders': WHATEVER THE INPUT: true; the input reads as it did. -/
def streamOrdersSpec : ChangeSpec := { name := "streamOrders", fn := fun _ => fun
  | [d1, d2, d3] => { results := [.lit (.bool true)], args := [d1, d2, d3] }
  | _ => none }
def streamOrdersRow : OpenClaim := { program := "ytbcleckapamicaa", sum := "2826cf946dc8f9325efeab5d1d96d7c2036a602d63210498e3492b91f3e8dc82", func := "shibboleth/shibbolethlaw13.StreamOrders", spec := "streamOrders", apart := false }
def StreamOrdersSaid : Prop := streamOrdersRow.holds Try.pinned (OpenSpec.ofChange streamOrdersSpec)

/-- ITS FALSE NEIGHBOUR: 'it returns false'. Refute it at one input. -/
def streamOrdersWrong : ChangeSpec := { name := "streamOrders", fn := fun _ => fun
  | [d1, d2, d3] => { results := [.lit (.bool false)], args := [d1, d2, d3] }
  | _ => none }
def StreamOrdersWrongFalsely : Prop := streamOrdersRow.holds Try.pinned (OpenSpec.ofChange streamOrdersWrong)

/-- 'shibbolethlaw13.StreamJoins': WHATEVER THE INPUT: true; the input reads as it did. -/
def streamJoinsSpec : ChangeSpec := { name := "streamJoins", fn := fun _ => fun
  | [d1, d2] => { results := [.lit (.bool true)], args := [d1, d2] }
  | _ => none }
def streamJoinsRow : OpenClaim := { program := "ytbcleckapamicaa", sum := "2826cf946dc8f9325efeab5d1d96d7c2036a602d63210498e3492b91f3e8dc82", func := "shibboleth/shibbolethlaw13.StreamJoins", spec := "streamJoins", unfollowed := true, recurses := true, apart := false }
def StreamJoinsSaid : Prop := streamJoinsRow.holds Try.pinned (OpenSpec.ofChange streamJoinsSpec)

/-- ITS FALSE NEIGHBOUR: 'it returns false'. Refute it at one input. -/
def streamJoinsWrong : ChangeSpec := { name := "streamJoins", fn := fun _ => fun
  | [d1, d2] => { results := [.lit (.bool false)], args := [d1, d2] }
  | _ => none }
def StreamJoinsWrongFalsely : Prop := streamJoinsRow.holds Try.pinned (OpenSpec.ofChange streamJoinsWrong)

/-- 'shibbolethlaw13.StreamMessages': WHATEVER THE INPUT: true; the input reads as it did. -/
def streamMessagesSpec : ChangeSpec := { name := "streamMessages", fn := fun _ => fun
  | [d1, d2] => { results := [.lit (.bool true)], args := [d1, d2] }
  | _ => none }
def streamMessagesRow : OpenClaim := { program := "ytbcleckapamicaa", sum := "2826cf946dc8f9325efeab5d1d96d7c2036a602d63210498e3492b91f3e8dc82", func := "shibboleth/shibbolethlaw13.StreamMessages", spec := "streamMessages", unfollowed := true, recurses := true, apart := false }
def StreamMessagesSaid : Prop := streamMessagesRow.holds Try.pinned (OpenSpec.ofChange streamMessagesSpec)

/-- ITS FALSE NEIGHBOUR: 'it returns false'. Refute it at one input. -/
def streamMessagesWrong : ChangeSpec := { name := "streamMessages", fn := fun _ => fun
  | [d1, d2] => { results := [.lit (.bool false)], args := [d1, d2] }
  | _ => none }
def StreamMessagesWrongFalsely : Prop := streamMessagesRow.holds Try.pinned (OpenSpec.ofChange streamMessagesWrong)

/-- 'shibbolethlaw13.StreamBack': WHATEVER THE INPUT: true; the input reads as it did. -/
def streamBackSpec : ChangeSpec := { name := "streamBack", fn := fun _ => fun
  | [d1, d2] => { results := [.lit (.bool true)], args := [d1, d2] }
  | _ => none }
def streamBackRow : OpenClaim := { program := "ytbcleckapamicaa", sum := "2826cf946dc8f9325efeab5d1d96d7c2036a602d63210498e3492b91f3e8dc82", func := "shibboleth/shibbolethlaw13.StreamBack", spec := "streamBack", unfollowed := true, recurses := true, apart := false }
def StreamBackSaid : Prop := streamBackRow.holds Try.pinned (OpenSpec.ofChange streamBackSpec)

/-- ITS FALSE NEIGHBOUR: 'it returns false'. Refute it at one input. -/
def streamBackWrong : ChangeSpec := { name := "streamBack", fn := fun _ => fun
  | [d1, d2] => { results := [.lit (.bool false)], args := [d1, d2] }
  | _ => none }
def StreamBackWrongFalsely : Prop := streamBackRow.holds Try.pinned (OpenSpec.ofChange streamBackWrong)

/-- 'shibbolethlaw11.SpanOrder': WHATEVER THE INPUT: true; the input reads as it did. -/
def spanOrderSpec : ChangeSpec := { name := "spanOrder", fn := fun _ => fun
  | [d] => { results := [.lit (.bool true)], args := [d] }
  | _ => none }
def spanOrderRow : OpenClaim := { program := "ytbcleckapamicaa", sum := "2826cf946dc8f9325efeab5d1d96d7c2036a602d63210498e3492b91f3e8dc82", func := "shibboleth/shibbolethlaw11.SpanOrder", spec := "spanOrder", inPlace := ["slices.overlaps[shibboleth/frame.Span]"], unfollowed := true, recurses := true, apart := false }
def SpanOrderSaid : Prop := spanOrderRow.holds Try.pinned (OpenSpec.ofChange spanOrderSpec)

/-- ITS FALSE NEIGHBOUR: 'it returns false'. Refute it at one input. -/
def spanOrderWrong : ChangeSpec := { name := "spanOrder", fn := fun _ => fun
  | [d] => { results := [.lit (.bool false)], args := [d] }
  | _ => none }
def SpanOrderWrongFalsely : Prop := spanOrderRow.holds Try.pinned (OpenSpec.ofChange spanOrderWrong)

/-- 'shibbolethlaw11.SpanAdds': WHATEVER THE INPUT: true; the input reads as it did. -/
def spanAddsSpec : ChangeSpec := { name := "spanAdds", fn := fun _ => fun
  | [d1, d2] => { results := [.lit (.bool true)], args := [d1, d2] }
  | _ => none }
def spanAddsRow : OpenClaim := { program := "ytbcleckapamicaa", sum := "2826cf946dc8f9325efeab5d1d96d7c2036a602d63210498e3492b91f3e8dc82", func := "shibboleth/shibbolethlaw11.SpanAdds", spec := "spanAdds", inPlace := ["slices.overlaps[shibboleth/frame.Span]"], unfollowed := true, recurses := true, apart := false }
def SpanAddsSaid : Prop := spanAddsRow.holds Try.pinned (OpenSpec.ofChange spanAddsSpec)

/-- ITS FALSE NEIGHBOUR: 'it returns false'. Refute it at one input. -/
def spanAddsWrong : ChangeSpec := { name := "spanAdds", fn := fun _ => fun
  | [d1, d2] => { results := [.lit (.bool false)], args := [d1, d2] }
  | _ => none }
def SpanAddsWrongFalsely : Prop := spanAddsRow.holds Try.pinned (OpenSpec.ofChange spanAddsWrong)

/-- 'shibbolethlaw11.SpanRuns': WHATEVER THE INPUT: true; the input reads as it did. -/
def spanRunsSpec : ChangeSpec := { name := "spanRuns", fn := fun _ => fun
  | [d1, d2] => { results := [.lit (.bool true)], args := [d1, d2] }
  | _ => none }
def spanRunsRow : OpenClaim := { program := "ytbcleckapamicaa", sum := "2826cf946dc8f9325efeab5d1d96d7c2036a602d63210498e3492b91f3e8dc82", func := "shibboleth/shibbolethlaw11.SpanRuns", spec := "spanRuns", inPlace := ["slices.overlaps[shibboleth/frame.Span]"], unfollowed := true, recurses := true, apart := false }
def SpanRunsSaid : Prop := spanRunsRow.holds Try.pinned (OpenSpec.ofChange spanRunsSpec)

/-- ITS FALSE NEIGHBOUR: 'it returns false'. Refute it at one input. -/
def spanRunsWrong : ChangeSpec := { name := "spanRuns", fn := fun _ => fun
  | [d1, d2] => { results := [.lit (.bool false)], args := [d1, d2] }
  | _ => none }
def SpanRunsWrongFalsely : Prop := spanRunsRow.holds Try.pinned (OpenSpec.ofChange spanRunsWrong)

/-- 'shibbolethlaw11.SpanAcks': WHATEVER THE INPUT: true; the input reads as it did. -/
def spanAcksSpec : ChangeSpec := { name := "spanAcks", fn := fun _ => fun
  | [d] => { results := [.lit (.bool true)], args := [d] }
  | _ => none }
def spanAcksRow : OpenClaim := { program := "ytbcleckapamicaa", sum := "2826cf946dc8f9325efeab5d1d96d7c2036a602d63210498e3492b91f3e8dc82", func := "shibboleth/shibbolethlaw11.SpanAcks", spec := "spanAcks", inPlace := ["slices.overlaps[shibboleth/frame.Span]"], unfollowed := true, recurses := true, apart := false }
def SpanAcksSaid : Prop := spanAcksRow.holds Try.pinned (OpenSpec.ofChange spanAcksSpec)

/-- ITS FALSE NEIGHBOUR: 'it returns false'. Refute it at one input. -/
def spanAcksWrong : ChangeSpec := { name := "spanAcks", fn := fun _ => fun
  | [d] => { results := [.lit (.bool false)], args := [d] }
  | _ => none }
def SpanAcksWrongFalsely : Prop := spanAcksRow.holds Try.pinned (OpenSpec.ofChange spanAcksWrong)

/- THE SECOND FORM. 'bulk': how many values and letters a reading holds, each counted each time it is reached (what is shared counts as often as it is met; a slice's spare places count too). A statement '..UptoSaid' is the law's where the arguments, and the package variables that the reading takes, are together of bulk at most 1048576: NARROWER than '..Said'. Prove '..Said' where nothing that the law and all that it calls make is longer than what came in: it says more and counts as full. Else prove '..UptoSaid'. A law counts once. -/
mutual
def uptoBulk {H : Type} : DataW H → Nat
  | .lit (.string bytes) => bytes.length + 1
  | .lit _ => 1
  | .nil => 1
  | .ptr d => uptoBulk d + 1
  | .slice elems spare => uptoBulkAll elems + uptoBulkAll spare + 1
  | .agg parts => uptoBulkAll parts + 1
  | .iface _ d => uptoBulk d + 1
  | .map entries => uptoBulkEntries entries + 1
  | .held _ => 1
def uptoBulkAll {H : Type} : List (DataW H) → Nat
  | [] => 0
  | d :: r => uptoBulk d + uptoBulkAll r
def uptoBulkEntries {H : Type} : List (Lit × DataW H) → Nat
  | [] => 0
  | x :: r => uptoBulkEntry x + uptoBulkEntries r
def uptoBulkEntry {H : Type} : Lit × DataW H → Nat
  | (.string bytes, d) => bytes.length + uptoBulk d + 1
  | (_, d) => uptoBulk d + 1
 end
def uptoSmall : (H : Type) → List (DataW H) → Bool := fun _ ds => decide (uptoBulkAll ds ≤ 1048576)
def OpenSpec.upto (s : _root_.Go.ChangeSpec) : _root_.Go.OpenSpec := { _root_.Go.OpenSpec.ofChange s with cond := some uptoSmall }

/-- 'shibbolethlaw19.ChooseBoth', WHERE WHAT IT READS IS OF BULK AT MOST 1048576: true; the input reads as it did. -/
def chooseBothUptoRow : OpenClaim := { program := "ytbcleckapamicaa", sum := "2826cf946dc8f9325efeab5d1d96d7c2036a602d63210498e3492b91f3e8dc82", func := "shibboleth/shibbolethlaw19.ChooseBoth", spec := "chooseBoth", unfollowed := true, recurses := true, apart := false, narrowed := true }
def ChooseBothUptoSaid : Prop := chooseBothUptoRow.holds Try.pinned (OpenSpec.upto chooseBothSpec)

/-- 'shibbolethlaw19.ChoosePicks', WHERE WHAT IT READS IS OF BULK AT MOST 1048576: true; the input reads as it did. -/
def choosePicksUptoRow : OpenClaim := { program := "ytbcleckapamicaa", sum := "2826cf946dc8f9325efeab5d1d96d7c2036a602d63210498e3492b91f3e8dc82", func := "shibboleth/shibbolethlaw19.ChoosePicks", spec := "choosePicks", unfollowed := true, recurses := true, apart := false, narrowed := true }
def ChoosePicksUptoSaid : Prop := choosePicksUptoRow.holds Try.pinned (OpenSpec.upto choosePicksSpec)

/-- 'shibbolethlaw19.ChooseVerifies', WHERE WHAT IT READS IS OF BULK AT MOST 1048576: true; the input reads as it did. -/
def chooseVerifiesUptoRow : OpenClaim := { program := "ytbcleckapamicaa", sum := "2826cf946dc8f9325efeab5d1d96d7c2036a602d63210498e3492b91f3e8dc82", func := "shibboleth/shibbolethlaw19.ChooseVerifies", spec := "chooseVerifies", unfollowed := true, recurses := true, apart := false, narrowed := true }
def ChooseVerifiesUptoSaid : Prop := chooseVerifiesUptoRow.holds Try.pinned (OpenSpec.upto chooseVerifiesSpec)

/-- 'shibbolethlaw13.StreamActs', WHERE WHAT IT READS IS OF BULK AT MOST 1048576: true; the input reads as it did. -/
def streamActsUptoRow : OpenClaim := { program := "ytbcleckapamicaa", sum := "2826cf946dc8f9325efeab5d1d96d7c2036a602d63210498e3492b91f3e8dc82", func := "shibboleth/shibbolethlaw13.StreamActs", spec := "streamActs", apart := false, narrowed := true }
def StreamActsUptoSaid : Prop := streamActsUptoRow.holds Try.pinned (OpenSpec.upto streamActsSpec)

/-- 'shibbolethlaw13.StreamFar', WHERE WHAT IT READS IS OF BULK AT MOST 1048576: true; the input reads as it did. -/
def streamFarUptoRow : OpenClaim := { program := "ytbcleckapamicaa", sum := "2826cf946dc8f9325efeab5d1d96d7c2036a602d63210498e3492b91f3e8dc82", func := "shibboleth/shibbolethlaw13.StreamFar", spec := "streamFar", apart := false, narrowed := true }
def StreamFarUptoSaid : Prop := streamFarUptoRow.holds Try.pinned (OpenSpec.upto streamFarSpec)

/-- 'shibbolethlaw13.StreamOrders', WHERE WHAT IT READS IS OF BULK AT MOST 1048576: true; the input reads as it did. -/
def streamOrdersUptoRow : OpenClaim := { program := "ytbcleckapamicaa", sum := "2826cf946dc8f9325efeab5d1d96d7c2036a602d63210498e3492b91f3e8dc82", func := "shibboleth/shibbolethlaw13.StreamOrders", spec := "streamOrders", apart := false, narrowed := true }
def StreamOrdersUptoSaid : Prop := streamOrdersUptoRow.holds Try.pinned (OpenSpec.upto streamOrdersSpec)

/-- 'shibbolethlaw13.StreamJoins', WHERE WHAT IT READS IS OF BULK AT MOST 1048576: true; the input reads as it did. -/
def streamJoinsUptoRow : OpenClaim := { program := "ytbcleckapamicaa", sum := "2826cf946dc8f9325efeab5d1d96d7c2036a602d63210498e3492b91f3e8dc82", func := "shibboleth/shibbolethlaw13.StreamJoins", spec := "streamJoins", unfollowed := true, recurses := true, apart := false, narrowed := true }
def StreamJoinsUptoSaid : Prop := streamJoinsUptoRow.holds Try.pinned (OpenSpec.upto streamJoinsSpec)

/-- 'shibbolethlaw13.StreamMessages', WHERE WHAT IT READS IS OF BULK AT MOST 1048576: true; the input reads as it did. -/
def streamMessagesUptoRow : OpenClaim := { program := "ytbcleckapamicaa", sum := "2826cf946dc8f9325efeab5d1d96d7c2036a602d63210498e3492b91f3e8dc82", func := "shibboleth/shibbolethlaw13.StreamMessages", spec := "streamMessages", unfollowed := true, recurses := true, apart := false, narrowed := true }
def StreamMessagesUptoSaid : Prop := streamMessagesUptoRow.holds Try.pinned (OpenSpec.upto streamMessagesSpec)

/-- 'shibbolethlaw13.StreamBack', WHERE WHAT IT READS IS OF BULK AT MOST 1048576: true; the input reads as it did. -/
def streamBackUptoRow : OpenClaim := { program := "ytbcleckapamicaa", sum := "2826cf946dc8f9325efeab5d1d96d7c2036a602d63210498e3492b91f3e8dc82", func := "shibboleth/shibbolethlaw13.StreamBack", spec := "streamBack", unfollowed := true, recurses := true, apart := false, narrowed := true }
def StreamBackUptoSaid : Prop := streamBackUptoRow.holds Try.pinned (OpenSpec.upto streamBackSpec)

/-- 'shibbolethlaw11.SpanOrder', WHERE WHAT IT READS IS OF BULK AT MOST 1048576: true; the input reads as it did. -/
def spanOrderUptoRow : OpenClaim := { program := "ytbcleckapamicaa", sum := "2826cf946dc8f9325efeab5d1d96d7c2036a602d63210498e3492b91f3e8dc82", func := "shibboleth/shibbolethlaw11.SpanOrder", spec := "spanOrder", inPlace := ["slices.overlaps[shibboleth/frame.Span]"], unfollowed := true, recurses := true, apart := false, narrowed := true }
def SpanOrderUptoSaid : Prop := spanOrderUptoRow.holds Try.pinned (OpenSpec.upto spanOrderSpec)

/-- 'shibbolethlaw11.SpanAdds', WHERE WHAT IT READS IS OF BULK AT MOST 1048576: true; the input reads as it did. -/
def spanAddsUptoRow : OpenClaim := { program := "ytbcleckapamicaa", sum := "2826cf946dc8f9325efeab5d1d96d7c2036a602d63210498e3492b91f3e8dc82", func := "shibboleth/shibbolethlaw11.SpanAdds", spec := "spanAdds", inPlace := ["slices.overlaps[shibboleth/frame.Span]"], unfollowed := true, recurses := true, apart := false, narrowed := true }
def SpanAddsUptoSaid : Prop := spanAddsUptoRow.holds Try.pinned (OpenSpec.upto spanAddsSpec)

/-- 'shibbolethlaw11.SpanRuns', WHERE WHAT IT READS IS OF BULK AT MOST 1048576: true; the input reads as it did. -/
def spanRunsUptoRow : OpenClaim := { program := "ytbcleckapamicaa", sum := "2826cf946dc8f9325efeab5d1d96d7c2036a602d63210498e3492b91f3e8dc82", func := "shibboleth/shibbolethlaw11.SpanRuns", spec := "spanRuns", inPlace := ["slices.overlaps[shibboleth/frame.Span]"], unfollowed := true, recurses := true, apart := false, narrowed := true }
def SpanRunsUptoSaid : Prop := spanRunsUptoRow.holds Try.pinned (OpenSpec.upto spanRunsSpec)

/-- 'shibbolethlaw11.SpanAcks', WHERE WHAT IT READS IS OF BULK AT MOST 1048576: true; the input reads as it did. -/
def spanAcksUptoRow : OpenClaim := { program := "ytbcleckapamicaa", sum := "2826cf946dc8f9325efeab5d1d96d7c2036a602d63210498e3492b91f3e8dc82", func := "shibboleth/shibbolethlaw11.SpanAcks", spec := "spanAcks", inPlace := ["slices.overlaps[shibboleth/frame.Span]"], unfollowed := true, recurses := true, apart := false, narrowed := true }
def SpanAcksUptoSaid : Prop := spanAcksUptoRow.holds Try.pinned (OpenSpec.upto spanAcksSpec)

end Rows
end Go.Proofs.Ytbcleckapamicaa
