/- stream.messages: the plain part; slices.Clone; the closure's maker. -/
import Derived.Test.YtbcleckapamicaaAct0
import Derived.Lib.SliceRun
namespace Go.Proofs.Ytbcleckapamicaa.Mes
open Go Go.RowKit Go.Proofs.YtbcleckapamicaaW.PrintWords Go.Proofs.YtbcleckapamicaaW.PrintLast Go.Proofs.YtbcleckapamicaaW.PrintMore
attribute [local go_sem] max2_int min2_int max_two min_two max_three min_three max_four min_four
open Go.Proofs.Ytbcleckapamicaa.Stm (Bytes bytes_rd mlen info5)
set_option linter.unusedVariables false
set_option linter.unusedSimpArgs false

/-- What bytes consist of (so many messages at most). -/
def parts : Nat → List Int → Option (List (List Int))
  | 0, _ => some []
  | f + 1, b => if b = [] then some [] else if b.length < 4 ∨ 2004 < mlen b ∨ (b.length : Int) < mlen b then none else (parts f (b.drop (mlen b).toNat)).map (b.take (mlen b).toNat :: ·)
def mesF (b : List Int) : Option (List (List Int)) := parts (b.length + 1) b

set_option maxHeartbeats 400000 in
set_option maxRecDepth 100000 in
theorem clone_calls (w : World) (ad : Addr) (c : Nat) (l : List Int) (hC : Kd.C (Kd.int .u8) w (some ad) l.length l) (hl : l.length ≤ 100000) :
    Calls Try.prog 67 #[.slice (some ad) l.length c] w fun e w' => ∃ v, e = .returned v ∧ Kd.R (Kd.int .u8) 5 w' w.heap.size (fun _ => True) v l ∧ Below w.heap.size w w' := by
  have HC := Aside0.mk hC
  have HL := Aside0.mk hl
  clear hC hl
  have q : ∀ (w : World) (a : Option Addr) (n c n' c' : Nat), (binOp .eql 44 (.slice a n c) (.slice none n' c')).run Try.prog w = .ok (.bool a.isNone) w := fun w a n c n' c' => Lib.run_eql_slice_nil w _ _ a n c n' c' Try.underlying44
  go_enter Try.func67, Try.ntmps67
  go_wp2_with (first
      | ((with_reducible refine gate_dst (N := 5) rfl ?_); refine Kd.R_lit (Kd.int .u8) w.heap.size 5 ?hg (N := 5) ?hd (xs := ([] : List Int)) (inner := []) (ok := fun _ => True) (okp := fun _ => True) ?hr ?hp (fun _ hk => hk) trivial (Below.refl _ _) (Nat.le_refl _) (by simp) ?_;
         (case hd => rfl); (case hg => rfl); (case hr => first | (go_simp; done) | (go_simp; rfl)); (case hp => exact (Reps.none _ _)); intro v6 w6 ho6 hb6 hg_ hnew_; clear hg_ hnew_; have O6 := Aside0.mk ho6; have B6 := Aside0.mk hb6; clear ho6 hb6)
      | ((with_reducible refine gate_builtin (b := .append) (xs := #[.tmp 5, .tmp 6]) rfl ?_); at_builtin;
         refine Kd.R_append_rows (Kd.int .u8) (w0 := w) w.heap.size rfl (.tmp 5) (.tmp 6) 44 5 (.int .u8 0) 1 rfl Try.underlying44 info5 rfl (by decide) (by omega) v6 ([] : List Int) l _ _ _ (fun _ => True) (fun _ => False) rfl rfl ?aO ?aR (fun _ _ h => h) (fun _ h => h.elim) ?aF ?aB ?aS ?aL ?_;
         (case aR => exact Kd.C_below HC.out B6.out); (case aB => exact B6.out); (case aF => exact fun _ _ => trivial); (case aO => exact O6.out); (case aS => exact below_size B6.out); (case aL => have := HL.out; simp; omega);
         intro v7 w7 ho7 hb7 hg7 hat7; clear hg7 hat7; rw [List.nil_append] at ho7; have O7 := Aside0.mk ho7; have B7 := Aside0.mk hb7; clear ho7 hb7))
  go_ret
  exact ⟨_, rfl, O7.out, B7.out⟩

set_option maxHeartbeats 400000 in
set_option maxRecDepth 100000 in
theorem maker_calls (w : World) (A : Option Addr) (n c : Nat) :
    Calls Try.prog 53 #[.slice A n c] w fun e w' => e = .returned (.func (.func 66) #[] #[.pointer (some ⟨w.heap.size, 0, none⟩)]) ∧ w' = w.alloc (.cells #[.slice A n c] 44) := by
  go_enter Try.func53, Try.ntmps53
  go_wp2
  go_ret
  exact ⟨rfl, rfl⟩
end Go.Proofs.Ytbcleckapamicaa.Mes
