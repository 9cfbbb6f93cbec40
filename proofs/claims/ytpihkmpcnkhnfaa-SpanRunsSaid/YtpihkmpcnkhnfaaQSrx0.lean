/- SpanRuns: its function, walked by hand: at any numbers it answers true. -/
import Derived.Test.YtpihkmpcnkhnfaaSr0
namespace Go.Proofs.Ytpihkmpcnkhnfaa.QSr
open Go Go.RowKit Go.Proofs.YtpihkmpcnkhnfaaW.PrintWords Go.Proofs.Ytpihkmpcnkhnfaa.Sp
set_option linter.unusedVariables false

/-! ### shibbolethlaw11_SpanRuns: function 5 -/
def shibbolethlaw11_SpanRuns.f (a0 a1 : Int) : Option Bool := if (0 ≤ a0 ∧ a0 ≤ 4294967295) ∧ (0 ≤ a1 ∧ a1 ≤ 65535) then some true else none
theorem shibbolethlaw11_SpanRuns.calls (a0 : Int) (a1 : Int) (r : Bool) (w : World) (h : shibbolethlaw11_SpanRuns.f a0 a1 = some r) :
    Calls Try.prog 5 #[.int .u32 a0, .int .u16 a1] w fun e w' => e = .returned (.bool r) ∧ Below w.heap.size w w' := by
  obtain ⟨h0, h1, rfl⟩ : (0 ≤ a0 ∧ a0 ≤ 4294967295) ∧ (0 ≤ a1 ∧ a1 ≤ 65535) ∧ r = true := by
    unfold shibbolethlaw11_SpanRuns.f at h
    split at h
    · rename_i q; exact ⟨q.1, q.2, (Option.some.inj h).symm⟩
    · cases h
  exact runs_calls a0 a1 h0 h1 w
end Go.Proofs.Ytpihkmpcnkhnfaa.QSr
