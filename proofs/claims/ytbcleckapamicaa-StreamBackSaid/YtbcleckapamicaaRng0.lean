/- A range over a function, opened: what its record is; how its operations run. For iterators that write their captured variables. -/
import Derived.Test.YtbcleckapamicaaProg
import Derived.RangeFuncBox
import Derived.RangeFuncNested
import Derived.RangeFuncCalls
import Derived.RangeFuncLeaves
import Derived.Shelf.Abstract
namespace Go.Proofs.Ytbcleckapamicaa.Rng
open Go Go.RowKit Go.Shelf
set_option linter.unusedVariables false

/-- A loop's record, by its state and its pending jump. -/
structure RecOf (rec : LoopState → Option Code → Loop) (fn : FuncId) (tmps : Array Value) (ps : Array Tmp) (assign body : Code) : Prop where
  state : ∀ st pe, (rec st pe).state = st
  pending : ∀ st pe, (rec st pe).pending = pe
  fn_ : ∀ st pe, (rec st pe).fn = fn
  tmps_ : ∀ st pe, (rec st pe).tmps = tmps
  params : ∀ st pe, (rec st pe).params = ps
  assign_ : ∀ st pe, (rec st pe).assign = assign
  body_ : ∀ st pe, (rec st pe).body = body
  setS : ∀ st pe st', { rec st pe with state := st' } = rec st' pe
  setP : ∀ st pe st' pe', { rec st pe with state := st', pending := pe' } = rec st' pe'

section
variable {rec : LoopState → Option Code → Loop} {fn : FuncId} {tmps : Array Value} {ps : Array Tmp} {assign body : Code} {P : Program} {W : World} {l : Nat}
theorem RecOf.yield (h : RecOf rec fn tmps ps assign body) {args : Array Value} (hl : W.heap[l]? = some (.loop (rec .ready none))) (hs : args.size = ps.size) :
    (Instr.yield l args).run P W = .ok (.round l fn ((ps.zip args).foldl (fun t (p, v) => t.setIfInBounds p v) tmps) assign body) W := by
  have h1 := run_yield (P := P) (args := args) hl (by rw [h.params]; exact hs)
  rw [h.fn_, h.params, h.tmps_, h.assign_, h.body_] at h1
  exact h1
theorem RecOf.begin_ (h : RecOf rec fn tmps ps assign body) (hl : W.heap[l]? = some (.loop (rec .ready none))) :
    (Instr.beginRound l).run P W = .ok () (W.putObj l (.loop (rec .busy none))) := by
  have h1 := run_beginRound (P := P) hl (h.state _ _)
  rw [h.setS] at h1
  exact h1
theorem RecOf.end_ (h : RecOf rec fn tmps ps assign body) (jump : Option Code) (hl : W.heap[l]? = some (.loop (rec .busy none))) :
    (Instr.endRound l jump).run P W = .ok (.bool jump.isNone) (W.putObj l (.loop (rec (if jump.isNone then .ready else .done) jump))) := by
  have h1 := run_endRound (P := P) jump hl
  rw [h.setP] at h1
  exact h1
theorem RecOf.endLoop (h : RecOf rec fn tmps ps assign body) {st : LoopState} {pe : Option Code} (hl : W.heap[l]? = some (.loop (rec st pe))) (hs : st ≠ .busy) :
    (Instr.endLoop l).run P W = .ok pe (W.putObj l (.loop (rec .exhausted pe))) := by
  have h1 := run_endLoop (P := P) hl (by rw [h.state]; exact hs)
  rw [h.setS, h.pending] at h1
  exact h1
end

/-- A range over a closure's value, opened: its closure is called with yield, in the world with the loop's record. -/
theorem open_range {F : Fence} {n : Nat} {P : Program} {g : Operand} {ps : Array Tmp} {assign body : Code} {Q : Exit → Act → World → Prop} {a : Act} {w : World} {gf : Nat} {lb : Array Value} (hro : F.round = none) (h1 : 1 ≤ n) (hF : F.fn gf)
    (hg : a.eval g = .func (.func gf) #[] lb) (eg : ∀ args w, (callFunc gf args).run P w = .ok (.enter gf args) w)
    (h : ∀ (fn : FuncId) (rec : LoopState → Option Code → Loop) (W1 : World), F.fn fn → RecOf rec fn a.tmps ps assign body → W1 = (w.alloc (.deferred (some []))).alloc (.loop (rec .ready none)) → CallsIn F (n - 1) P gf (#[.func (.yield (w.heap.size + 1)) #[] #[]] ++ lb) W1
      (rangePost F n P (w.heap.size + 1) Q { a with defers := [{ target := .collected w.heap.size, args := #[] }] ++ a.defers })) :
    (Code.rangeFunc g ps assign body).wpIn F n P Q a w := by
  refine wpIn_rangeFunc ?_
  intro fn hfn
  rw [hro]
  obtain ⟨rec, hrec⟩ : ∃ rec : LoopState → Option Code → Loop, rec = fun st pe => { state := st, pending := pe, fn := fn, tmps := a.tmps, params := ps, assign := assign, body := body, defers := w.heap.size } := ⟨_, rfl⟩
  obtain ⟨W1, hW1⟩ : ∃ W1, (w.alloc (.deferred (some []))).alloc (.loop (rec .ready none)) = W1 := ⟨_, rfl⟩
  refine ⟨w.heap.size + 1, [{ target := .collected w.heap.size, args := #[] }], W1, { target := .fn (.func gf) lb, args := #[.func (.yield (w.heap.size + 1)) #[] #[]] }, W1, gf,
    #[.func (.yield (w.heap.size + 1)) #[] #[]] ++ lb, W1, ?_, ?_, ?_, ?_, fun _ => h1, ?_⟩
  rotate_left 4
  · refine h fn rec W1 hfn ?_ hW1.symm
    rw [hrec]
    exact ⟨fun _ _ => rfl, fun _ _ => rfl, fun _ _ => rfl, fun _ _ => rfl, fun _ _ => rfl, fun _ _ => rfl, fun _ _ => rfl, fun _ _ _ => rfl, fun _ _ _ _ => rfl⟩
  · rw [← hW1, hrec]; exact run_enterLoop_outer _ _ _ _ _
  · simp only [resolve, hg]
    simp [go_sem]
  · intro f' hf'
    simp [Target.leads] at hf'
    subst hf'
    exact hF
  · simp [invoke, go_sem, eg]
end Go.Proofs.Ytbcleckapamicaa.Rng
