/- A part of the proof of the law FrameWrites: Opn, PrmFrameWrites, QVax2, VaP, FrP, FrP2, FrP3, PureFrameWrites, Tab. -/
import Derived.Test.YtbcleckapamicaaDoorZFw00
import Derived.Deep.Slices
import Derived.WideShapes
import Derived.ProofKit
import Derived.Test.YtbcleckapamicaaDoorZFw15
import Derived.Test.YtbcleckapamicaaDoorZFw02
import Derived.Test.YtbcleckapamicaaDoorRows
import Derived.LaidLaws
import Derived.Lib.LaidTab
import Derived.Stop.LaidErr
namespace Go.Proofs.YtbcleckapamicaaDoor.Opn
open Go.RowKit Go.Proofs.YtbcleckapamicaaDoorW.PrintWords
set_option linter.unusedVariables false
variable {P : Program}
def Opens (P : Program) (t : TypeId) {α : Type} (d : Kd α) (ok : α → Prop) : Prop :=
  ∀ (H : Type) (enc : TypeId × Value → H) (w : World) (base : Nat) (spare : Nat → Bool) (held : Bool) (fuel : Nat) (cs : List Value) (x : DataW H × List MemPlace),
    DataW.trod enc P w base spare held fuel t cs = some x → ∃ a, d.K w a cs ∧ ok a
theorem Opens.int {t : TypeId} {k : IntKind} (ht : P.underlying t = some (.int k)) : Opens P t (Kd.int k) (fun n => (Lit.int k n).wf = true) := by
  intro H enc w base spare held fuel cs x h
  obtain ⟨n, rfl, _, hw⟩ := DataW.trod_int ht h
  exact ⟨n, rfl, hw⟩
theorem Opens.bool {t : TypeId} (ht : P.underlying t = some .bool) : Opens P t Kd.bool (fun _ => True) := by
  intro H enc w base spare held fuel cs x h
  obtain ⟨b, rfl, _⟩ := DataW.trod_bool ht h
  exact ⟨b, rfl, trivial⟩
theorem Opens.slice {t e : TypeId} {α : Type} {d : Kd α} {ok : α → Prop} (ht : P.underlying t = some (.slice e)) (hs : P.cellsOf e = d.sz) (he : Opens P e d ok) :
    Opens P t (Kd.slice e d) (fun xs => xs.length ≤ 9223372036854775807 ∧ ∀ x ∈ xs, ok x) := by
  classical
  intro H enc w base spare held fuel cs x h
  rcases Go.Deep.open_slice ht h with ⟨rfl, _⟩ | ⟨a, len, cap, m, n, D, Pl, rfl, hb, hl, hm, hmm, _, hx⟩
  · exact ⟨[], ⟨none, 0, rfl, by simp, Kd.C_nil d w⟩, by simp, by simp⟩
  · have hlm : len ≤ m := by rw [hmm]; split <;> omega
    have hex : ∀ i, i < len → ∃ p : α, (∃ c, c.length = d.sz ∧ d.K w p c ∧ ∀ j u, c[j]? = some u → w.cell? (a.add (i * d.sz + j)) = some u) ∧ ok p := by
      intro i hi
      obtain ⟨c, hc1, hc2⟩ := hx i (by omega)
      obtain ⟨_, hlen, hcell⟩ := World.cells?_some hc1
      obtain ⟨p, hK, ho⟩ := he H enc w base spare held n c _ hc2
      rw [hs] at hlen hcell
      refine ⟨p, ⟨c, hlen, hK, fun j u hj => ?_⟩, ho⟩
      have hjl : j < d.sz := by
        rcases Nat.lt_or_ge j c.length with h1 | h1
        · omega
        · rw [List.getElem?_eq_none h1] at hj; cases hj
      have := hcell j hjl
      rw [Addr.add_add] at this
      rw [this, hj]
    have hmax : len ≤ 9223372036854775807 := by have := hm; simp only [maxLen] at this; omega
    have hL : ∃ l : List α, l.length = len ∧ ∀ (i : Nat) (p : α), l[i]? = some p → (∃ c, c.length = d.sz ∧ d.K w p c ∧ ∀ j u, c[j]? = some u → w.cell? (a.add (i * d.sz + j)) = some u) ∧ ok p := by
      refine ⟨List.ofFn (fun i : Fin len => Classical.choose (hex i.1 i.2)), by simp, fun i p hp => ?_⟩
      rw [List.getElem?_ofFn] at hp
      split at hp
      · rename_i hi
        obtain rfl := Option.some.inj hp
        exact Classical.choose_spec (hex i hi)
      · cases hp
    obtain ⟨l, hlen, hall⟩ := hL
    refine ⟨l, ⟨some a, cap, by rw [hlen], by omega, hlen ▸ rfl, by omega, fun _ => ⟨a, rfl, fun j p hp => (hall j p hp).1⟩⟩, by omega, fun p hp => ?_⟩
    obtain ⟨i, hi, rfl⟩ := List.mem_iff_getElem.1 hp
    exact (hall i _ (List.getElem?_eq_getElem hi)).2
def OpensF (P : Program) (fs : List Field) (off : Nat) {α : Type} (d : Kd α) (ok : α → Prop) : Prop :=
  ∀ (H : Type) (enc : TypeId × Value → H) (w : World) (base : Nat) (spare : Nat → Bool) (held : Bool) (n : Nat) (cs : List Value), cs.length = off + d.sz →
    (∀ f, f ∈ fs → ∃ y, DataW.trod enc P w base spare held n f.type ((cs.drop f.offset).take (P.cellsOf f.type)) = some y) → ∃ a, d.K w a (cs.drop off) ∧ ok a
theorem OpensF.last {f : Field} {off : Nat} {α : Type} {d : Kd α} {ok : α → Prop} (ho : f.offset = off) (hc : P.cellsOf f.type = d.sz) (h : Opens P f.type d ok) : OpensF P [f] off d ok := by
  intro H enc w base spare held n cs hl hf
  obtain ⟨y, hy⟩ := hf f (List.mem_singleton.2 rfl)
  rw [ho, hc, List.take_of_length_le (by simp; omega)] at hy
  exact h H enc w base spare held n _ _ hy
theorem OpensF.cons {f : Field} {fs : List Field} {off : Nat} {α β : Type} {d : Kd α} {d' : Kd β} {ok : α → Prop} {ok' : β → Prop} (ho : f.offset = off) (hc : P.cellsOf f.type = d.sz) (h : Opens P f.type d ok) (h' : OpensF P fs (off + d.sz) d' ok') :
    OpensF P (f :: fs) off (Kd.pair d d') (fun p => ok p.1 ∧ ok' p.2) := by
  intro H enc w base spare held n cs hl hf
  have hl' : cs.length = off + (d.sz + d'.sz) := hl
  obtain ⟨y, hy⟩ := hf f (List.mem_cons_self ..)
  rw [ho, hc] at hy
  obtain ⟨a, hK, hok⟩ := h H enc w base spare held n _ _ hy
  obtain ⟨b, hK', hok'⟩ := h' H enc w base spare held n cs (by omega) (fun g hg => hf g (List.mem_cons_of_mem _ hg))
  refine ⟨(a, b), ⟨_, _, ?_, hK, hK'⟩, hok, hok'⟩
  rw [← List.drop_drop, List.take_append_drop]
theorem OpensF.iso {fs : List Field} {off : Nat} {α β : Type} {d : Kd α} {ok : α → Prop} {f : β → α} (g : α → β) (hg : ∀ a, f (g a) = a) (h : OpensF P fs off d ok) : OpensF P fs off (Kd.iso d f) (fun b => ok (f b)) := by
  intro H enc w base spare held n cs hl hf
  obtain ⟨a, hK, hok⟩ := h H enc w base spare held n cs hl hf
  exact ⟨g a, by show d.K w (f (g a)) _; rw [hg]; exact hK, by show ok (f (g a)); rw [hg]; exact hok⟩
theorem Opens.struct {t : TypeId} {fs : Array Field} {α : Type} {d : Kd α} {ok : α → Prop} (ht : P.underlying t = some (.struct fs)) (hs : P.cellsOf t = d.sz) (h : OpensF P fs.toList 0 d ok) : Opens P t d ok := by
  intro H enc w base spare held fuel cs x hx
  obtain ⟨xs, n, _, _, hl, hlen, hf⟩ := DataW.trod_struct ht hx
  have := h H enc w base spare held n cs (by rw [hl, hs]; omega) (fun f hm => ?_)
  · rwa [List.drop_zero] at this
  · obtain ⟨i, hi, rfl⟩ := List.mem_iff_getElem.1 hm
    have hi' : i < fs.size := by simpa using hi
    have := hf i fs[i] (by simp [hi'])
    refine ⟨xs[i]'(by omega), ?_⟩
    rw [List.getElem?_eq_getElem (show i < xs.length by omega)] at this
    simpa using this
theorem Opens.value {t : TypeId} {α : Type} {d : Kd α} {ok : α → Prop} (h : Opens P t d ok) {H : Type} {enc : TypeId × Value → H} {w : World} {base : Nat} {spare : Nat → Bool} {held : Bool} {v : Value} {x : DataW H} {ps : List MemPlace} (hv : DataW.Trod enc P w base spare held t v x ps) :
    ∃ a, d.K w a v.cells.toList ∧ ok a := by
  obtain ⟨fuel, hf⟩ := hv
  exact h H enc w base spare held fuel _ _ hf
theorem Opens.sliceValue {t e : TypeId} {α : Type} {d : Kd α} {ok : List α → Prop} (h : Opens P t (Kd.slice e d) ok) {H : Type} {enc : TypeId × Value → H} {w : World} {base : Nat} {spare : Nat → Bool} {held : Bool} {a : Option Addr} {len cap : Nat} {x : DataW H} {ps : List MemPlace} (hv : DataW.Trod enc P w base spare held t (.slice a len cap) x ps) :
    ∃ l : List α, len = l.length ∧ l.length ≤ cap ∧ d.C w a l.length l ∧ ok l := by
  obtain ⟨l, ⟨A, c, hcs, hl, hC⟩, ho⟩ := h.value hv
  simp [Value.cells] at hcs
  obtain ⟨rfl, rfl, rfl⟩ := hcs
  exact ⟨l, rfl, hl, hC, ho⟩
end Go.Proofs.YtbcleckapamicaaDoor.Opn
namespace Go.Proofs.YtbcleckapamicaaDoor.frameWritesPrm
open Go.RowKit Go.Proofs.YtbcleckapamicaaDoorW.PrintWords Go.Proofs.YtbcleckapamicaaDoor.QFr Go.Proofs.YtbcleckapamicaaDoor.Opn
set_option linter.unusedVariables false
def ok3 : Int → Prop := fun n => (Lit.int .i64 n).wf = true
theorem opens_ok3 : Opens Tryd.prog 3 (Kd.int .i64) ok3 := Opens.int Tryd.underlying3
def ok102 : S102 → Prop := fun x => ok3 x.f0 ∧ ok3 x.f1
theorem opens_ok102 : Opens Tryd.prog 102 k102 ok102 := Opens.struct Tryd.underlying102 (by kernel_rfl) (OpensF.iso (fun p => ⟨p.1, p.2⟩) (fun _ => rfl) (OpensF.cons rfl (by kernel_rfl) opens_ok3 (OpensF.last rfl (by kernel_rfl) opens_ok3)))
def ok60 : List (S102) → Prop := fun xs => xs.length ≤ 9223372036854775807 ∧ ∀ x ∈ xs, ok102 x
theorem opens_ok60 : Opens Tryd.prog 60 (Kd.slice 102 k102) ok60 := Opens.slice Tryd.underlying60 (by kernel_rfl) opens_ok102
def ok5 : Int → Prop := fun n => (Lit.int .u8 n).wf = true
theorem opens_ok5 : Opens Tryd.prog 5 (Kd.int .u8) ok5 := Opens.int Tryd.underlying5
def ok22 : List (Int) → Prop := fun xs => xs.length ≤ 9223372036854775807 ∧ ∀ x ∈ xs, ok5 x
theorem opens_ok22 : Opens Tryd.prog 22 (Kd.slice 5 (Kd.int .u8)) ok22 := Opens.slice Tryd.underlying22 (by kernel_rfl) opens_ok5
def ok62 : S62 → Prop := fun x => ok3 x.f0 ∧ ok3 x.f1 ∧ ok60 x.f2 ∧ ok3 x.f3 ∧ ok22 x.f4 ∧ ok3 x.f5
theorem opens_ok62 : Opens Tryd.prog 62 k62 ok62 := Opens.struct Tryd.underlying62 (by kernel_rfl) (OpensF.iso (fun p => ⟨p.1, p.2.1, p.2.2.1, p.2.2.2.1, p.2.2.2.2.1, p.2.2.2.2.2⟩) (fun _ => rfl) (OpensF.cons rfl (by kernel_rfl) opens_ok3 (OpensF.cons rfl (by kernel_rfl) opens_ok3 (OpensF.cons rfl (by kernel_rfl) opens_ok60 (OpensF.cons rfl (by kernel_rfl) opens_ok3 (OpensF.cons rfl (by kernel_rfl) opens_ok22 (OpensF.last rfl (by kernel_rfl) opens_ok3)))))))
def ok52 : List (S62) → Prop := fun xs => xs.length ≤ 9223372036854775807 ∧ ∀ x ∈ xs, ok62 x
theorem opens_ok52 : Opens Tryd.prog 52 (Kd.slice 62 k62) ok52 := Opens.slice Tryd.underlying52 (by kernel_rfl) opens_ok62
def Pure : Prop := ∀ (x0 : List (S62)), ok52 x0 → ∃ k, shibbolethlaw06_FrameWrites.f k x0 = some true
end Go.Proofs.YtbcleckapamicaaDoor.frameWritesPrm
namespace Go.Proofs.YtbcleckapamicaaDoor.QVa
open Go.RowKit Go.Proofs.YtbcleckapamicaaDoorW.PrintWords Go.Proofs.YtbcleckapamicaaDoorW.PrintLast Go.Proofs.YtbcleckapamicaaDoorW.PrintMore
attribute [local go_sem] max2_int min2_int max_two min_two max_three min_three max_four min_four
set_option linter.unusedVariables false
set_option linter.unusedSimpArgs false
end Go.Proofs.YtbcleckapamicaaDoor.QVa
namespace Go.Proofs.YtbcleckapamicaaDoor.VaP
open Go.RowKit Go.Proofs.YtbcleckapamicaaDoorW.PrintWords Go.Proofs.YtbcleckapamicaaDoorW.PrintLast Go.Proofs.YtbcleckapamicaaDoorW.PrintMore Go.Proofs.YtbcleckapamicaaDoor.QVa Go.Proofs.YtbcleckapamicaaDoor.Vn
open Go.Proofs.YtbcleckapamicaaDoor.Gv (bits_TrailingZeros.f slices_Clone_byte_byte.f varint_Size.f)
set_option linter.unusedVariables false
set_option linter.unusedSimpArgs false
theorem size_f (n : Int) (k : Nat) (hk : 0 < k) : shibbolethref01_Size.f k n = some (vsize n) := by
  obtain ⟨k, rfl⟩ : ∃ m, k = m + 1 := ⟨k - 1, by omega⟩
  unfold shibbolethref01_Size.f vsize
  simp only [shibbolethref01_Size.j0]
  by_cases h1 : n < 0
  · simp [h1]
  · by_cases h2 : 4611686018427387903 < n
    · simp [h1, h2]
    · by_cases h3 : n < 64
      · simp [h1, h2, h3]
      · by_cases h4 : n < 16384
        · simp [h1, h2, h3, h4]
        · by_cases h5 : n < 1073741824
          · simp [h1, h2, h3, h4, h5]
          · simp [h1, h2, h3, h4, h5]
theorem or_mark (a : Int) (i m : Nat) (h0 : 0 ≤ a) (ha : a < 2 ^ i) (hm : m * 2 ^ i < 18446744073709551616) (hi : (2 : Int) ^ i ≤ 18446744073709551616) : Go.bits .or .u64 a ((m * 2 ^ i : Nat) : Int) = a + ((m * 2 ^ i : Nat) : Int) := by
  rw [u64_or a _ h0 (by omega) (by omega) (by omega), Int.toNat_natCast]
  have hc : ((a.toNat : Nat) : Int) < ((2 ^ i : Nat) : Int) := by rw [Int.toNat_of_nonneg h0]; simpa using ha
  have h := Nat.shiftLeft_add_eq_or_of_lt (i := i) (b := a.toNat) (Int.ofNat_lt.1 hc) m
  rw [Nat.shiftLeft_eq] at h
  rw [Nat.or_comm, ← h]
  omega
theorem shr_0 (x : Int) : shr .u64 x 0 = x := by simp [shr]
theorem shr_8 (x : Int) : shr .u64 x 8 = x / 256 := by simp [shr, IntKind.bits]
theorem shr_16 (x : Int) : shr .u64 x 16 = x / 65536 := by simp [shr, IntKind.bits]
theorem shr_24 (x : Int) : shr .u64 x 24 = x / 16777216 := by simp [shr, IntKind.bits]
theorem shr_32 (x : Int) : shr .u64 x 32 = x / 4294967296 := by simp [shr, IntKind.bits]
theorem shr_40 (x : Int) : shr .u64 x 40 = x / 1099511627776 := by simp [shr, IntKind.bits]
theorem shr_48 (x : Int) : shr .u64 x 48 = x / 281474976710656 := by simp [shr, IntKind.bits]
theorem shr_56 (x : Int) : shr .u64 x 56 = x / 72057594037927936 := by simp [shr, IntKind.bits]
theorem append_step (l : List Int) (x : Int) (j k : Nat) (hj : j ≤ 7) (hl : l.length < 140737488355328) : varint_Append.l0 (k + 1) l x (j : Int) = varint_Append.l0 k (l ++ [shr .u64 x ((8 * j : Nat) : Int) % 256]) x ((j : Int) - 1) := by
  simp only [varint_Append.l0]
  have e1 : wrap64 (8 * (j : Int)) = ((8 * j : Nat) : Int) := by unfold wrap64; omega
  have e2 : wrap64 ((j : Int) - 1) = (j : Int) - 1 := by unfold wrap64; omega
  rw [e1, e2, if_pos (by omega), if_pos (by omega), if_pos hl]
theorem append_end (l : List Int) (x : Int) (k : Nat) : varint_Append.l0 (k + 1) l x (-1) = some l := by
  simp only [varint_Append.l0]
  rw [if_neg (by omega)]
theorem append_f (l : List Int) (n : Int) (hl : l.length ≤ 1000000) (k : Nat) (hk : 9 < k) : varint_Append.f k l n = some (l ++ vbytes n) := by
  obtain ⟨k, rfl⟩ : ∃ m, k = m + 9 := ⟨k - 9, by omega⟩
  unfold varint_Append.f slices_Clone_byte_byte.f varint_Size.f
  rw [if_pos (by omega)]
  simp only [Option.bind_some]
  rcases vsize_cases n with ⟨hn, h, e⟩ | ⟨hn, h, e⟩ | ⟨hn, h, e⟩ | ⟨hn, h, e⟩ | ⟨hn, h, e⟩ <;> rw [h, e]
  · simp
  · have w1 : IntKind.u64.wrap n = n := by simp [IntKind.wrap, IntKind.bits, IntKind.signed]; omega
    have w2 : shl .u64 (IntKind.u64.wrap 0) (wrap64 ((wrap64 (8 * 1)) - 2)) = ((0 * 2 ^ 6 : Nat) : Int) := by decide +kernel
    have w3 : bits_TrailingZeros.f (IntKind.u64.wrap 1) = some 0 := by decide +kernel
    have w4 : wrap64 (1 - 1) = ((0 : Nat) : Int) := by decide +kernel
    rw [if_neg (by decide), w3]
    simp only [Option.bind_some]
    rw [if_pos (by decide +kernel), w1, w2, w4, or_mark n 6 0 hn.1 (by omega) (by omega) (by decide), show (k + 9) = (k + 7) + 1 + 1 from rfl, append_step _ _ 0 _ (by omega) (by omega), show (((0 : Nat) : Int) - 1) = -1 from rfl, append_end]
    congr 2
    simp only [show ((8 * 0 : Nat) : Int) = 0 from rfl, shr_0]
    congr 1; omega
  · have w1 : IntKind.u64.wrap n = n := by simp [IntKind.wrap, IntKind.bits, IntKind.signed]; omega
    have w2 : shl .u64 (IntKind.u64.wrap 1) (wrap64 ((wrap64 (8 * 2)) - 2)) = ((1 * 2 ^ 14 : Nat) : Int) := by decide +kernel
    have w3 : bits_TrailingZeros.f (IntKind.u64.wrap 2) = some 1 := by decide +kernel
    have w4 : wrap64 (2 - 1) = ((1 : Nat) : Int) := by decide +kernel
    rw [if_neg (by decide), w3]
    simp only [Option.bind_some]
    rw [if_pos (by decide +kernel), w1, w2, w4, or_mark n 14 1 (by omega) (by omega) (by omega) (by decide), show (k + 9) = (k + 6) + 1 + 1 + 1 from rfl, append_step _ _ 1 _ (by omega) (by omega), show (((1 : Nat) : Int) - 1) = ((0 : Nat) : Int) from rfl,
      append_step _ _ 0 _ (by omega) (by simp; omega), show (((0 : Nat) : Int) - 1) = -1 from rfl, append_end]
    simp only [show ((8 * 0 : Nat) : Int) = 0 from rfl, show ((8 * 1 : Nat) : Int) = 8 from rfl, shr_0, shr_8, List.append_assoc, List.cons_append, List.nil_append]
    congr 2
    simp only [List.cons.injEq, and_true]
    omega
  · have w1 : IntKind.u64.wrap n = n := by simp [IntKind.wrap, IntKind.bits, IntKind.signed]; omega
    have w2 : shl .u64 (IntKind.u64.wrap 2) (wrap64 ((wrap64 (8 * 4)) - 2)) = ((2 * 2 ^ 30 : Nat) : Int) := by decide +kernel
    have w3 : bits_TrailingZeros.f (IntKind.u64.wrap 4) = some 2 := by decide +kernel
    have w4 : wrap64 (4 - 1) = ((3 : Nat) : Int) := by decide +kernel
    rw [if_neg (by decide), w3]
    simp only [Option.bind_some]
    rw [if_pos (by decide +kernel), w1, w2, w4, or_mark n 30 2 (by omega) (by omega) (by omega) (by decide), show (k + 9) = (k + 4) + 1 + 1 + 1 + 1 + 1 from rfl, append_step _ _ 3 _ (by omega) (by omega), show (((3 : Nat) : Int) - 1) = ((2 : Nat) : Int) from rfl,
      append_step _ _ 2 _ (by omega) (by simp; omega), show (((2 : Nat) : Int) - 1) = ((1 : Nat) : Int) from rfl, append_step _ _ 1 _ (by omega) (by simp; omega), show (((1 : Nat) : Int) - 1) = ((0 : Nat) : Int) from rfl,
      append_step _ _ 0 _ (by omega) (by simp; omega), show (((0 : Nat) : Int) - 1) = -1 from rfl, append_end]
    simp only [show ((8 * 0 : Nat) : Int) = 0 from rfl, show ((8 * 1 : Nat) : Int) = 8 from rfl, show ((8 * 2 : Nat) : Int) = 16 from rfl, show ((8 * 3 : Nat) : Int) = 24 from rfl, shr_0, shr_8, shr_16, shr_24, List.append_assoc, List.cons_append, List.nil_append]
    congr 2
    simp only [List.cons.injEq, and_true]
    omega
  · have w1 : IntKind.u64.wrap n = n := by simp [IntKind.wrap, IntKind.bits, IntKind.signed]; omega
    have w2 : shl .u64 (IntKind.u64.wrap 3) (wrap64 ((wrap64 (8 * 8)) - 2)) = ((3 * 2 ^ 62 : Nat) : Int) := by decide +kernel
    have w3 : bits_TrailingZeros.f (IntKind.u64.wrap 8) = some 3 := by decide +kernel
    have w4 : wrap64 (8 - 1) = ((7 : Nat) : Int) := by decide +kernel
    rw [if_neg (by decide), w3]
    simp only [Option.bind_some]
    rw [if_pos (by decide +kernel), w1, w2, w4, or_mark n 62 3 (by omega) (by omega) (by omega) (by decide), show (k + 9) = k + 1 + 1 + 1 + 1 + 1 + 1 + 1 + 1 + 1 from rfl, append_step _ _ 7 _ (by omega) (by omega), show (((7 : Nat) : Int) - 1) = ((6 : Nat) : Int) from rfl,
      append_step _ _ 6 _ (by omega) (by simp; omega), show (((6 : Nat) : Int) - 1) = ((5 : Nat) : Int) from rfl, append_step _ _ 5 _ (by omega) (by simp; omega), show (((5 : Nat) : Int) - 1) = ((4 : Nat) : Int) from rfl,
      append_step _ _ 4 _ (by omega) (by simp; omega), show (((4 : Nat) : Int) - 1) = ((3 : Nat) : Int) from rfl, append_step _ _ 3 _ (by omega) (by simp; omega), show (((3 : Nat) : Int) - 1) = ((2 : Nat) : Int) from rfl,
      append_step _ _ 2 _ (by omega) (by simp; omega), show (((2 : Nat) : Int) - 1) = ((1 : Nat) : Int) from rfl, append_step _ _ 1 _ (by omega) (by simp; omega), show (((1 : Nat) : Int) - 1) = ((0 : Nat) : Int) from rfl,
      append_step _ _ 0 _ (by omega) (by simp; omega), show (((0 : Nat) : Int) - 1) = -1 from rfl, append_end]
    simp only [show ((8 * 0 : Nat) : Int) = 0 from rfl, show ((8 * 1 : Nat) : Int) = 8 from rfl, show ((8 * 2 : Nat) : Int) = 16 from rfl, show ((8 * 3 : Nat) : Int) = 24 from rfl, show ((8 * 4 : Nat) : Int) = 32 from rfl, show ((8 * 5 : Nat) : Int) = 40 from rfl, show ((8 * 6 : Nat) : Int) = 48 from rfl, show ((8 * 7 : Nat) : Int) = 56 from rfl,
      shr_0, shr_8, shr_16, shr_24, shr_32, shr_40, shr_48, shr_56, List.append_assoc, List.cons_append, List.nil_append]
    congr 2
    simp only [List.cons.injEq, and_true]
    omega
theorem bytes_l0 (n : Int) (s : Nat) (hs : s ≤ 8) : ∀ (d j k : Nat), j + d = s → shibbolethref01_Bytes.l0 (k + d + 1) n (s : Int) (List.replicate j 0) (j : Int) = shibbolethref01_Bytes.l1 k (s : Int) (List.replicate s 0) n ((s : Int) - 1) := by
  intro d
  induction d with
  | zero =>
    intro j k hj
    obtain rfl : j = s := by omega
    simp only [shibbolethref01_Bytes.l0]
    rw [if_neg (by omega), show wrap64 ((j : Int) - 1) = (j : Int) - 1 from by unfold wrap64; omega]
  | succ d ih =>
    intro j k hj
    rw [show k + (d + 1) + 1 = (k + d + 1) + 1 from by omega]
    rw [shibbolethref01_Bytes.l0]
    rw [if_pos (by omega), if_pos (by simp; omega), show wrap64 ((j : Int) + 1) = ((j + 1 : Nat) : Int) from by unfold wrap64; omega, show List.replicate j (0 : Int) ++ [0] = List.replicate (j + 1) 0 from by rw [List.replicate_succ']]
    exact ih (j + 1) k (by omega)
theorem bytes_step (s : Int) (l : List Int) (x : Int) (i k : Nat) (hi : i < l.length) (hl : l.length ≤ 8) (h0 : 0 ≤ x) (hx : x < 4611686018427387904) : shibbolethref01_Bytes.l1 (k + 1) s l x (i : Int) = shibbolethref01_Bytes.l1 k s (l.set i (x % 256)) (x / 256) ((i : Int) - 1) := by
  rw [shibbolethref01_Bytes.l1]
  rw [if_pos (by omega), if_pos (by omega), if_pos (by omega), Int.toNat_natCast, show wrap64 ((i : Int) - 1) = (i : Int) - 1 from by unfold wrap64; omega, Int.tmod_eq_emod_of_nonneg h0, Int.tdiv_eq_ediv_of_nonneg h0,
    show x % 256 % 256 = x % 256 from by omega, show wrap64 (x / 256) = x / 256 from by unfold wrap64; omega]
theorem bytes_end (s : Int) (l : List Int) (x : Int) (k : Nat) (hl : 0 < l.length) : shibbolethref01_Bytes.l1 (k + 1) s l x (-1) = some (if s = 2 then l.set 0 ((rd l 0 + 64) % 256) else if s = 4 then l.set 0 ((rd l 0 + 128) % 256) else if s = 8 then l.set 0 ((rd l 0 + 192) % 256) else l) := by
  rw [shibbolethref01_Bytes.l1]
  have hp : 0 < (l.length : Int) := by omega
  rw [if_neg (by omega)]
  simp only [if_pos hp, Int.toNat_zero]
  split
  · rfl
  · split
    · rfl
    · split <;> rfl
theorem bytes_f (n : Int) (k : Nat) (hk : 30 < k) : shibbolethref01_Bytes.f k n = some (vbytes n) := by
  obtain ⟨k, rfl⟩ : ∃ m, k = m + 30 := ⟨k - 30, by omega⟩
  unfold shibbolethref01_Bytes.f
  rw [size_f n _ (by omega)]
  simp only [Option.bind_some]
  rcases vsize_cases n with ⟨hn, h, e⟩ | ⟨hn, h, e⟩ | ⟨hn, h, e⟩ | ⟨hn, h, e⟩ | ⟨hn, h, e⟩ <;> rw [h, e]
  · have := bytes_l0 n 0 (by omega) 0 0 (k + 29) rfl
    rw [show k + 30 = k + 29 + 0 + 1 from rfl]
    refine Eq.trans this ?_
    rw [shibbolethref01_Bytes.l1]; simp
  · have := bytes_l0 n 1 (by omega) 1 0 (k + 28) rfl
    rw [show k + 30 = k + 28 + 1 + 1 from rfl]
    refine Eq.trans this ?_
    rw [show (((1 : Nat) : Int) - 1) = ((0 : Nat) : Int) from rfl, bytes_step _ _ _ 0 _ (by simp) (by simp) (by omega) (by omega), show (((0 : Nat) : Int) - 1) = -1 from rfl, bytes_end _ _ _ _ (by simp)]
    simp; omega
  · have := bytes_l0 n 2 (by omega) 2 0 (k + 27) rfl
    rw [show k + 30 = k + 27 + 2 + 1 from rfl]
    refine Eq.trans this ?_
    rw [show (((2 : Nat) : Int) - 1) = ((1 : Nat) : Int) from rfl, bytes_step _ _ _ 1 _ (by simp) (by simp) (by omega) (by omega), show (((1 : Nat) : Int) - 1) = ((0 : Nat) : Int) from rfl, bytes_step _ _ _ 0 _ (by simp) (by simp) (by omega) (by omega), show (((0 : Nat) : Int) - 1) = -1 from rfl, bytes_end _ _ _ _ (by simp)]
    simp [rd, List.replicate]; omega
  · have := bytes_l0 n 4 (by omega) 4 0 (k + 25) rfl
    rw [show k + 30 = k + 25 + 4 + 1 from rfl]
    refine Eq.trans this ?_
    rw [show (((4 : Nat) : Int) - 1) = ((3 : Nat) : Int) from rfl, bytes_step _ _ _ 3 _ (by simp) (by simp) (by omega) (by omega), show (((3 : Nat) : Int) - 1) = ((2 : Nat) : Int) from rfl, bytes_step _ _ _ 2 _ (by simp) (by simp) (by omega) (by omega),
      show (((2 : Nat) : Int) - 1) = ((1 : Nat) : Int) from rfl, bytes_step _ _ _ 1 _ (by simp) (by simp) (by omega) (by omega), show (((1 : Nat) : Int) - 1) = ((0 : Nat) : Int) from rfl, bytes_step _ _ _ 0 _ (by simp) (by simp) (by omega) (by omega), show (((0 : Nat) : Int) - 1) = -1 from rfl, bytes_end _ _ _ _ (by simp)]
    simp [rd, List.replicate]; omega
  · have := bytes_l0 n 8 (by omega) 8 0 (k + 21) rfl
    rw [show k + 30 = k + 21 + 8 + 1 from rfl]
    refine Eq.trans this ?_
    rw [show (((8 : Nat) : Int) - 1) = ((7 : Nat) : Int) from rfl, bytes_step _ _ _ 7 _ (by simp) (by simp) (by omega) (by omega), show (((7 : Nat) : Int) - 1) = ((6 : Nat) : Int) from rfl, bytes_step _ _ _ 6 _ (by simp) (by simp) (by omega) (by omega),
      show (((6 : Nat) : Int) - 1) = ((5 : Nat) : Int) from rfl, bytes_step _ _ _ 5 _ (by simp) (by simp) (by omega) (by omega), show (((5 : Nat) : Int) - 1) = ((4 : Nat) : Int) from rfl, bytes_step _ _ _ 4 _ (by simp) (by simp) (by omega) (by omega),
      show (((4 : Nat) : Int) - 1) = ((3 : Nat) : Int) from rfl, bytes_step _ _ _ 3 _ (by simp) (by simp) (by omega) (by omega), show (((3 : Nat) : Int) - 1) = ((2 : Nat) : Int) from rfl, bytes_step _ _ _ 2 _ (by simp) (by simp) (by omega) (by omega),
      show (((2 : Nat) : Int) - 1) = ((1 : Nat) : Int) from rfl, bytes_step _ _ _ 1 _ (by simp) (by simp) (by omega) (by omega), show (((1 : Nat) : Int) - 1) = ((0 : Nat) : Int) from rfl, bytes_step _ _ _ 0 _ (by simp) (by simp) (by omega) (by omega), show (((0 : Nat) : Int) - 1) = -1 from rfl, bytes_end _ _ _ _ (by simp)]
    simp [rd, List.replicate]; omega
end Go.Proofs.YtbcleckapamicaaDoor.VaP
namespace Go.Proofs.YtbcleckapamicaaDoor.FrP
open Go.RowKit Go.Proofs.YtbcleckapamicaaDoorW.PrintWords Go.Proofs.YtbcleckapamicaaDoorW.PrintLast Go.Proofs.YtbcleckapamicaaDoorW.PrintMore Go.Proofs.YtbcleckapamicaaDoor.QFr Go.Proofs.YtbcleckapamicaaDoor.Vn
open Go.Proofs.YtbcleckapamicaaDoor.Gv (varint_Size.f)
open Go.Proofs.YtbcleckapamicaaDoor.Gf (ideal_Number.f tbytes)
open Go.Proofs.YtbcleckapamicaaDoor.QVa (varint_Append.f varint_Give.f shibbolethref01_Bytes.f shibbolethref01_Give.f shibbolethref01_Size.f)
open Go.Proofs.YtbcleckapamicaaDoor.VaP (append_f bytes_f size_f)
set_option linter.unusedVariables false
set_option linter.unusedSimpArgs false
theorem fsame_l (l : List Int) (hl : l.length ≤ 9223372036854775806) : ∀ (d i k : Nat), i + d = l.length → d < k → shibbolethlaw06_same.l0 k l l (i : Int) = some true := by
  intro d
  induction d with
  | zero =>
    intro i k hi hk
    obtain ⟨k, rfl⟩ : ∃ m, k = m + 1 := ⟨k - 1, by omega⟩
    simp only [shibbolethlaw06_same.l0]
    rw [if_neg (by omega)]
  | succ d ih =>
    intro i k hi hk
    obtain ⟨k, rfl⟩ : ∃ m, k = m + 1 := ⟨k - 1, by omega⟩
    simp only [shibbolethlaw06_same.l0]
    rw [if_pos (by omega), if_pos (by omega), if_pos (by omega), if_pos trivial, show wrap64 ((i : Int) + 1) = ((i + 1 : Nat) : Int) from by unfold wrap64; omega]
    exact ih (i + 1) k (by omega) (by omega)
theorem fsame_f (l : List Int) (hl : l.length ≤ 9223372036854775806) (k : Nat) (hk : l.length < k) : shibbolethlaw06_same.f k l l = some true := by
  unfold shibbolethlaw06_same.f
  rw [if_pos rfl]
  exact fsame_l l hl l.length 0 k (by omega) hk
theorem w1 (i : Nat) (h : i < 100000) : wrap64 ((i : Int) + 1) = ((i + 1 : Nat) : Int) := by unfold wrap64; omega
theorem wm1 (i : Nat) (h0 : 0 < i) (h : i < 100000) : wrap64 ((i : Int) - 1) = ((i - 1 : Nat) : Int) := by unfold wrap64; omega
def cv (l : List S102) : List S103 := l.map fun s => ⟨s.f0, s.f1⟩
theorem cv_len (l : List S102) : (cv l).length = l.length := by simp [cv]
theorem rd_cv (l : List S102) (i : Nat) (h : i < l.length) : rd_T103 (cv l) (i : Int) = ⟨(rd_T102 l (i : Int)).f0, (rd_T102 l (i : Int)).f1⟩ := by
  simp [rd_T103, rd_T102, cv, List.getD_eq_getElem?_getD, List.getElem?_map, List.getElem?_eq_getElem h]
def okAt (l : List S103) (j : Nat) : Prop := 0 ≤ (rd_T103 l (j : Int)).f0 ∧ (rd_T103 l (j : Int)).f0 ≤ (rd_T103 l (j : Int)).f1 ∧ (rd_T103 l (j : Int)).f1 ≤ 4611686018427387903 ∧ (0 < j → (rd_T103 l (j : Int)).f1 ≤ (rd_T103 l ((j - 1 : Nat) : Int)).f0 - 2)
def spansOK (l : List S103) : Prop := (∀ j, j < l.length → okAt l j) ∧ 0 < l.length ∧ l.length ≤ 32
theorem vsize_zero (n : Int) : vsize n = 0 ↔ ¬ (0 ≤ n ∧ n ≤ 4611686018427387903) := by unfold vsize; (repeat' split) <;> omega
theorem vsize_pos (n : Int) : 0 < vsize n ↔ (0 ≤ n ∧ n ≤ 4611686018427387903) := by unfold vsize; (repeat' split) <;> omega
theorem spanned_l (l : List S103) (hl : l.length ≤ 100) : ∀ (d i k : Nat), i + d = l.length → d < k → (∀ j, j < i → okAt l j) → ∃ b, frame_spanned.l0 k l l (l.length : Int) (i : Int) = some b ∧ (b = true ↔ spansOK l) := by
  intro d
  induction d with
  | zero =>
    intro i k hi hk hok
    obtain ⟨k, rfl⟩ : ∃ m, k = m + 1 := ⟨k - 1, by omega⟩
    simp only [frame_spanned.l0]
    rw [if_neg (by omega)]
    by_cases h0 : (l.length : Int) > 0
    · rw [if_pos h0]
      refine ⟨_, rfl, ?_⟩
      rw [decide_eq_true_eq]
      exact ⟨fun h => ⟨fun j hj => hok j (by omega), by omega, by omega⟩, fun h => by have := h.2.2; omega⟩
    · rw [if_neg h0]
      exact ⟨_, rfl, ⟨fun h => absurd h (by decide), fun h => by have := h.2.1; omega⟩⟩
  | succ d ih =>
    intro i k hi hk hok
    obtain ⟨k, rfl⟩ : ∃ m, k = m + 1 := ⟨k - 1, by omega⟩
    have hi' : i < l.length := by omega
    simp only [frame_spanned.l0]
    rw [if_pos (by omega), if_pos (by omega), if_pos (by omega)]
    have bad : ∀ (h : ¬ okAt l i), ∃ b, some false = some b ∧ (b = true ↔ spansOK l) := fun h => ⟨false, rfl, ⟨fun h' => absurd h' (by decide), fun h' => absurd (h'.1 i hi') h⟩⟩
    by_cases h1 : (rd_T103 l (i : Int)).f0 < 0
    · rw [if_pos h1]; exact bad (fun h => by have := h.1; omega)
    rw [if_neg h1]
    by_cases h2 : (rd_T103 l (i : Int)).f0 > (rd_T103 l (i : Int)).f1
    · rw [if_pos h2]; exact bad (fun h => by have := h.2.1; omega)
    rw [if_neg h2]
    unfold varint_Size.f
    simp only [Option.bind_some]
    by_cases h3 : vsize (rd_T103 l (i : Int)).f1 = 0
    · rw [if_pos h3]; exact bad (fun h => by have := (vsize_zero _).1 h3; have := h.1; have := h.2.1; have := h.2.2.1; omega)
    rw [if_neg h3]
    have h3' : (rd_T103 l (i : Int)).f1 ≤ 4611686018427387903 := by
      rw [vsize_zero] at h3
      omega
    have step : okAt l i → ∃ b, frame_spanned.l0 k l l (l.length : Int) ((i + 1 : Nat) : Int) = some b ∧ (b = true ↔ spansOK l) := fun h => ih (i + 1) k (by omega) (by omega) (fun j hj => by
      rcases Nat.lt_or_ge j i with hji | hji
      · exact hok j hji
      · have : j = i := by omega
        rw [this]; exact h)
    by_cases h4 : (i : Int) > 0
    · rw [if_pos h4, wm1 i (by omega) (by omega), w1 i (by omega), if_pos (by omega), if_pos (by omega)]
      have hp := hok (i - 1) (by omega)
      have hw : wrap64 ((rd_T103 l ((i - 1 : Nat) : Int)).f0 - 2) = (rd_T103 l ((i - 1 : Nat) : Int)).f0 - 2 := by have := hp.1; have := hp.2.1; have := hp.2.2.1; unfold wrap64; omega
      rw [hw]
      by_cases h5 : (rd_T103 l (i : Int)).f1 > (rd_T103 l ((i - 1 : Nat) : Int)).f0 - 2
      · rw [if_pos h5]; exact bad (fun h => by have := h.2.2.2 (by omega); omega)
      · rw [if_neg h5]; exact step ⟨by omega, by omega, h3', fun _ => by omega⟩
    · rw [if_neg h4, w1 i (by omega)]
      exact step ⟨by omega, by omega, h3', fun h => by omega⟩
theorem spanned_f (l : List S103) (hl : l.length ≤ 100) (k : Nat) (hk : l.length < k) : ∃ b, frame_spanned.f k l = some b ∧ (b = true ↔ spansOK l) := by
  unfold frame_spanned.f
  exact spanned_l l hl l.length 0 k (by omega) hk (fun j hj => by omega)
theorem rspans_l (l : List S102) (a0 a1 a3 a5 : Int) (l4 : List Int) (hl : l.length ≤ 100) : ∀ (d i k : Nat), i + d = l.length → 2 * d + 3 < k → (∀ j, j < i → okAt (cv l) j) → ∃ b, shibbolethref06_Right.l0 k (i : Int) a0 a1 l a3 l4 a5 = some b ∧ (b = true ↔ spansOK (cv l)) := by
  intro d
  induction d with
  | zero =>
    intro i k hi hk hok
    obtain ⟨k, rfl⟩ : ∃ m, k = m + 1 := ⟨k - 1, by omega⟩
    simp only [shibbolethref06_Right.l0]
    rw [if_neg (by omega)]
    have hc := cv_len l
    by_cases h0 : (l.length : Int) ≥ 1
    · rw [if_pos h0]
      refine ⟨_, rfl, ?_⟩
      rw [decide_eq_true_eq]
      exact ⟨fun h => ⟨fun j hj => hok j (by omega), by omega, by omega⟩, fun h => by have := h.2.2; omega⟩
    · rw [if_neg h0]
      exact ⟨_, rfl, ⟨fun h => absurd h (by decide), fun h => by have := h.2.1; omega⟩⟩
  | succ d ih =>
    intro i k hi hk hok
    obtain ⟨k, rfl⟩ : ∃ m, k = m + 2 := ⟨k - 2, by omega⟩
    have hc := cv_len l
    have hi' : i < (cv l).length := by omega
    have e := rd_cv l i (by omega)
    have e0 : (rd_T103 (cv l) (i : Int)).f0 = (rd_T102 l (i : Int)).f0 := by rw [e]
    have e1 : (rd_T103 (cv l) (i : Int)).f1 = (rd_T102 l (i : Int)).f1 := by rw [e]
    rw [show k + 2 = (k + 1) + 1 from rfl]
    simp only [shibbolethref06_Right.l0]
    rw [if_pos (by omega), if_pos (by omega)]
    have bad : ∀ (h : ¬ okAt (cv l) i), ∃ b, some false = some b ∧ (b = true ↔ spansOK (cv l)) := fun h => ⟨false, rfl, ⟨fun h' => absurd h' (by decide), fun h' => absurd (h'.1 i hi') h⟩⟩
    by_cases h1 : (rd_T102 l (i : Int)).f0 < 0
    · rw [if_pos h1]; simp only [shibbolethref06_Right.j4]; rw [if_pos trivial]; exact bad (fun h => by have := h.1; omega)
    rw [if_neg h1]
    by_cases h2 : (rd_T102 l (i : Int)).f1 < (rd_T102 l (i : Int)).f0
    · rw [if_pos h2]; simp only [shibbolethref06_Right.j4]; rw [if_pos trivial]; exact bad (fun h => by have := h.2.1; omega)
    rw [if_neg h2, size_f _ _ (by omega)]
    simp only [Option.bind_some, shibbolethref06_Right.j4]
    by_cases h3 : vsize (rd_T102 l (i : Int)).f1 = 0
    · rw [if_pos (by simp [h3])]; exact bad (fun h => by have := (vsize_zero _).1 h3; have := h.1; have := h.2.1; have := h.2.2.1; omega)
    rw [if_neg (by simp [h3])]
    have h3' : (rd_T102 l (i : Int)).f1 ≤ 4611686018427387903 := by
      rw [vsize_zero] at h3
      omega
    have step : okAt (cv l) i → ∃ b, shibbolethref06_Right.l0 k ((i + 1 : Nat) : Int) a0 a1 l a3 l4 a5 = some b ∧ (b = true ↔ spansOK (cv l)) := fun h => ih (i + 1) k (by omega) (by omega) (fun j hj => by
      rcases Nat.lt_or_ge j i with hji | hji
      · exact hok j hji
      · have : j = i := by omega
        rw [this]; exact h)
    by_cases h4 : (i : Int) > 0
    · rw [if_pos h4, wm1 i (by omega) (by omega), w1 i (by omega), if_pos (by omega), if_pos (by omega)]
      have hp := hok (i - 1) (by omega)
      have ep := rd_cv l (i - 1) (by omega)
      have ep0 : (rd_T103 (cv l) ((i - 1 : Nat) : Int)).f0 = (rd_T102 l ((i - 1 : Nat) : Int)).f0 := by rw [ep]
      have hp1 := hp.1
      have hp2 := hp.2.1
      have hp3 := hp.2.2.1
      have hw : wrap64 ((rd_T102 l ((i - 1 : Nat) : Int)).f0 - 2) = (rd_T102 l ((i - 1 : Nat) : Int)).f0 - 2 := by unfold wrap64; omega
      rw [hw]
      by_cases h6 : (rd_T102 l ((i - 1 : Nat) : Int)).f0 < 2
      · rw [if_pos h6]; exact bad (fun h => by have := h.2.2.2 (by omega); have := h.1; have := h.2.1; omega)
      rw [if_neg h6]
      by_cases h5 : (rd_T102 l (i : Int)).f1 > (rd_T102 l ((i - 1 : Nat) : Int)).f0 - 2
      · rw [if_pos h5]; exact bad (fun h => by have := h.2.2.2 (by omega); omega)
      · rw [if_neg h5]; exact step ⟨by omega, by omega, by omega, fun _ => by omega⟩
    · rw [if_neg h4, w1 i (by omega)]
      exact step ⟨by omega, by omega, by omega, fun h => by omega⟩
def fright (a0 a1 : Int) (l2 : List S103) (a3 : Int) (l4 : List Int) (a5 : Int) : Prop :=
  (a0 = 0 ∧ 1 ≤ a1 ∧ a1 ≤ 1200 ∧ l2.length = 0 ∧ a3 = 0 ∧ l4.length = 0 ∧ a5 = 0) ∨
  ((a0 = 1 ∨ a0 = 30) ∧ a1 = 0 ∧ l2.length = 0 ∧ a3 = 0 ∧ l4.length = 0 ∧ a5 = 0) ∨
  (a0 = 2 ∧ spansOK l2 ∧ a1 = 0 ∧ a3 = 0 ∧ l4.length = 0 ∧ a5 = 0) ∨
  (a0 = 6 ∧ 0 ≤ a3 ∧ a3 ≤ 1048576 ∧ 1 ≤ l4.length ∧ l4.length ≤ 1000 ∧ a1 = 0 ∧ l2.length = 0 ∧ a5 = 0) ∨
  (a0 = 7 ∧ 1 ≤ a5 ∧ a5 ≤ 65536 ∧ a1 = 0 ∧ l2.length = 0 ∧ a3 = 0 ∧ l4.length = 0) ∨
  (a0 = 8 ∧ 1 ≤ a5 ∧ a5 ≤ 65536 ∧ 0 ≤ a1 ∧ a1 ≤ 4611686018427387903 ∧ l2.length = 0 ∧ a3 = 0 ∧ l4.length = 0) ∨
  (a0 = 28 ∧ 0 ≤ a1 ∧ a1 ≤ 4611686018427387903 ∧ l2.length = 0 ∧ a3 = 0 ∧ l4.length = 0 ∧ a5 = 0)
theorem bare_f (a0 a1 : Int) (l2 : List S103) (a3 : Int) (l4 : List Int) (a5 : Int) (b1 b2 b3 b4 : Bool) : frame_bare.f a0 a1 l2 a3 l4 a5 b1 b2 b3 b4 =
    some (decide ((b1 = true ∨ a1 = 0) ∧ (b2 = true ∨ l2.length = 0) ∧ (b3 = true ∨ a3 = 0 ∧ l4.length = 0) ∧ (b4 = true ∨ a5 = 0))) := by
  unfold frame_bare.f
  cases b1 <;> cases b2 <;> cases b3 <;> cases b4 <;> simp <;> (repeat' split) <;> simp_all [Bool.beq_eq_decide_eq]
theorem tbytes_pos (h : Int) : 0 < (tbytes h).length ↔ (1 ≤ h ∧ h ≤ 65536) := by
  unfold tbytes; split
  · simp; omega
  · simp; omega
theorem some_decide {p q : Prop} {_ : Decidable p} {_ : Decidable q} (h : p ↔ q) : some (decide p) = some (decide q) := by simp [h]
theorem true_decide {q : Prop} {_ : Decidable q} (h : q) : some true = some (decide q) := by simp [h]
theorem false_decide {q : Prop} {_ : Decidable q} (h : ¬ q) : some false = some (decide q) := by simp [h]
theorem kinds (a0 : Int) : a0 = 0 ∨ a0 = 1 ∨ a0 = 30 ∨ a0 = 2 ∨ a0 = 6 ∨ a0 = 7 ∨ a0 = 8 ∨ a0 = 28 ∨ (a0 ≠ 0 ∧ a0 ≠ 1 ∧ a0 ≠ 30 ∧ a0 ≠ 2 ∧ a0 ≠ 6 ∧ a0 ≠ 7 ∧ a0 ≠ 8 ∧ a0 ≠ 28) := by omega
theorem fright_else (a0 a1 : Int) (l2 : List S103) (a3 : Int) (l4 : List Int) (a5 : Int) (h : a0 ≠ 0 ∧ a0 ≠ 1 ∧ a0 ≠ 30 ∧ a0 ≠ 2 ∧ a0 ≠ 6 ∧ a0 ≠ 7 ∧ a0 ≠ 8 ∧ a0 ≠ 28) : ¬ fright a0 a1 l2 a3 l4 a5 := by
  intro hf
  unfold fright at hf
  rcases hf with q | q | q | q | q | q | q <;> have := q.1 <;> omega
set_option maxHeartbeats 2000000 in
theorem right_f (a0 a1 : Int) (l2 : List S103) (a3 : Int) (l4 : List Int) (a5 : Int) (hl : l2.length ≤ 100) (k : Nat) (hk : 200 < k) : ∃ b, frame_Right.f k a0 a1 l2 a3 l4 a5 = some b ∧ (b = true ↔ fright a0 a1 l2 a3 l4 a5) := by
  obtain ⟨k, rfl⟩ : ∃ m, k = m + 1 := ⟨k - 1, by omega⟩
  have ht := tbytes_pos a5
  have hv := vsize_pos a1
  obtain ⟨bs, hbs, hbi⟩ := spanned_f l2 hl k (by omega)
  suffices h : frame_Right.f (k + 1) a0 a1 l2 a3 l4 a5 = some (@decide (fright a0 a1 l2 a3 l4 a5) (Classical.propDecidable _)) from ⟨_, h, by simp⟩
  unfold frame_Right.f ideal_Number.f varint_Size.f
  simp only [Option.bind_some, bare_f, frame_Right.j0, hbs]
  have hd1 : decide (((tbytes a5).length : Int) > 0) = decide (1 ≤ a5 ∧ a5 ≤ 65536) := by simp only [decide_eq_decide]; omega
  have hd2 : decide (vsize a1 > 0) = decide (0 ≤ a1 ∧ a1 ≤ 4611686018427387903) := by simp only [decide_eq_decide]; omega
  rw [hd1, hd2]
  clear hd1 hd2 ht hv hbs
  rcases kinds a0 with h | h | h | h | h | h | h | h | h
  iterate 3
    · subst h
      clear hbi
      simp only [fright, ne_eq, Int.reduceEq, reduceIte, not_true_eq_false, not_false_eq_true, false_and, true_and, or_false, false_or, and_true, and_false, or_true, true_or, decide_eq_true_eq, Bool.false_eq_true, beq_iff_eq, eq_self, if_true, if_false, Int.reduceBEq, or_self, gt_iff_lt]
      repeat' split
      all_goals first | exact false_decide id | exact false_decide (by omega) | exact true_decide (by omega) | exact some_decide (by omega) | (exfalso; omega)
  · subst h
    by_cases hS : spansOK l2
    · obtain rfl : bs = true := hbi.2 hS
      simp only [hS, fright, ne_eq, Int.reduceEq, reduceIte, not_true_eq_false, not_false_eq_true, false_and, true_and, or_false, false_or, and_true, and_false, or_true, true_or, decide_eq_true_eq, Bool.false_eq_true, beq_iff_eq, eq_self, if_true, if_false, Int.reduceBEq, or_self, gt_iff_lt]
      try exact some_decide (by omega)
    · obtain rfl : bs = false := by cases bs with | false => rfl | true => exact absurd (hbi.1 rfl) hS
      simp only [hS, fright, ne_eq, Int.reduceEq, reduceIte, not_true_eq_false, not_false_eq_true, false_and, true_and, or_false, false_or, and_true, and_false, or_true, true_or, decide_eq_true_eq, Bool.false_eq_true, beq_iff_eq, eq_self, if_true, if_false, Int.reduceBEq, or_self, gt_iff_lt]
      try exact false_decide id
  iterate 4
    · subst h
      clear hbi
      simp only [fright, ne_eq, Int.reduceEq, reduceIte, not_true_eq_false, not_false_eq_true, false_and, true_and, or_false, false_or, and_true, and_false, or_true, true_or, decide_eq_true_eq, Bool.false_eq_true, beq_iff_eq, eq_self, if_true, if_false, Int.reduceBEq, or_self, gt_iff_lt]
      repeat' split
      all_goals first | exact false_decide id | exact false_decide (by omega) | exact true_decide (by omega) | exact some_decide (by omega) | (exfalso; omega)
  · have hf := fright_else a0 a1 l2 a3 l4 a5 h
    obtain ⟨h0, h1, h30, h2, h6, h7, h8, h28⟩ := h
    simp only [h0, h1, h30, h2, h6, h7, h8, h28, if_false, beq_iff_eq]
    exact false_decide hf
def rest (a0 a1 a3 : Int) (l4 : List Int) (bs x3 x4 : Bool) : Bool :=
  if a0 = 0 then decide (1 ≤ a1 ∧ a1 ≤ 1200) else if a0 = 1 ∨ a0 = 30 then true else if a0 = 2 then bs else if a0 = 6 then decide (0 ≤ a3 ∧ a3 ≤ 1048576 ∧ 1 ≤ l4.length ∧ l4.length ≤ 1000) else
  if a0 = 7 then x3 else if a0 = 8 then (x3 && x4) else if a0 = 28 then x4 else false
theorem j1_f (a0 a1 : Int) (l2 : List S102) (a3 : Int) (l4 : List Int) (a5 : Int) (k : Nat) (bs x3 x4 x78 : Bool) (hbs : shibbolethref06_Right.l0 k 0 a0 a1 l2 a3 l4 a5 = some bs) :
    shibbolethref06_Right.j1 (k + 2) x3 x4 x78 a0 a1 l2 a3 l4 a5 = some (if x78 = true then false else rest a0 a1 a3 l4 bs x3 x4) := by
  rw [show k + 2 = (k + 1) + 1 from rfl]
  simp only [shibbolethref06_Right.j1, shibbolethref06_Right.j2, hbs]
  unfold rest
  cases x78
  · simp only [Bool.false_eq_true, if_false, beq_iff_eq]
    repeat' split
    all_goals first | rfl | (exfalso; omega) | (subst_vars; simp_all; done) | (simp only [Option.some.injEq, Bool.true_eq, Bool.false_eq, decide_eq_true_eq, decide_eq_false_iff_not, decide_eq_decide]; omega) | (cases x3 <;> cases x4 <;> simp_all)
  · rfl
set_option maxHeartbeats 8000000 in
theorem j0_f (a0 a1 : Int) (l2 : List S102) (a3 : Int) (l4 : List Int) (a5 : Int) (k : Nat) (bs x3 : Bool) (hbs : shibbolethref06_Right.l0 k 0 a0 a1 l2 a3 l4 a5 = some bs) :
    shibbolethref06_Right.j0 (k + 3) x3 a0 a1 l2 a3 l4 a5 = some (if (a0 ≠ 2 ∧ 0 < l2.length) ∨ (a0 ≠ 6 ∧ (a3 ≠ 0 ∨ 0 < l4.length)) ∨ (a0 ≠ 7 ∧ a0 ≠ 8 ∧ a5 ≠ 0) ∨ (a0 ≠ 0 ∧ a0 ≠ 8 ∧ a0 ≠ 28 ∧ a1 ≠ 0) then false else
      rest a0 a1 a3 l4 bs x3 (decide (0 ≤ a1 ∧ a1 ≤ 4611686018427387903))) := by
  rw [show k + 3 = (k + 2) + 1 from rfl]
  have hv := vsize_pos a1
  have hd2 : decide (vsize a1 > 0) = decide (0 ≤ a1 ∧ a1 ≤ 4611686018427387903) := by simp only [decide_eq_decide]; omega
  simp only [shibbolethref06_Right.j0, size_f _ (k + 2) (by omega), Option.bind_some, j1_f a0 a1 l2 a3 l4 a5 k bs _ _ _ hbs, hd2]
  clear hv hd2 hbs
  generalize rest a0 a1 a3 l4 bs x3 (decide (0 ≤ a1 ∧ a1 ≤ 4611686018427387903)) = R
  simp only [Bool.false_eq_true, if_false, if_true, bne_iff_ne, decide_eq_true_eq]
  repeat' split
  all_goals first | rfl | (exfalso; omega)
set_option maxHeartbeats 8000000 in
theorem Right_f (a0 a1 : Int) (l2 : List S102) (a3 : Int) (l4 : List Int) (a5 : Int) (hl : l2.length ≤ 100) (k : Nat) (hk : 300 < k) : ∃ b, shibbolethref06_Right.f k a0 a1 l2 a3 l4 a5 = some b ∧ (b = true ↔ fright a0 a1 (cv l2) a3 l4 a5) := by
  obtain ⟨k, rfl⟩ : ∃ m, k = m + 3 := ⟨k - 3, by omega⟩
  have hc := cv_len l2
  obtain ⟨bs, hbs, hbi⟩ := rspans_l l2 a0 a1 a3 a5 l4 hl l2.length 0 k (by omega) (by omega) (fun j hj => by omega)
  have hbs : shibbolethref06_Right.l0 k 0 a0 a1 l2 a3 l4 a5 = some bs := hbs
  suffices h : shibbolethref06_Right.f (k + 3) a0 a1 l2 a3 l4 a5 = some (@decide (fright a0 a1 (cv l2) a3 l4 a5) (Classical.propDecidable _)) from ⟨_, h, by simp⟩
  have e : shibbolethref06_Right.f (k + 3) a0 a1 l2 a3 l4 a5 = shibbolethref06_Right.j0 (k + 3) (decide (1 ≤ a5 ∧ a5 ≤ 65536)) a0 a1 l2 a3 l4 a5 := by
    unfold shibbolethref06_Right.f
    split
    · congr 1; simp only [decide_eq_decide]; omega
    · congr 1; symm; rw [decide_eq_false_iff_not]; omega
  rw [e, j0_f _ _ _ _ _ _ _ bs _ hbs]
  clear e hbs
  rcases kinds a0 with h | h | h | h | h | h | h | h | h
  iterate 3
    · subst h
      clear hbi
      simp only [rest, fright, ne_eq, Int.reduceEq, reduceIte, not_true_eq_false, not_false_eq_true, false_and, true_and, or_false, false_or, and_true, and_false, or_true, true_or, decide_eq_true_eq, Bool.false_eq_true, beq_iff_eq, eq_self, if_true, if_false, Int.reduceBEq, or_self, gt_iff_lt]
      repeat' split
      all_goals first | exact false_decide id | exact false_decide (by omega) | exact true_decide (by omega) | exact some_decide (by omega) | (exfalso; omega)
  · subst h
    by_cases hS : spansOK (cv l2)
    · obtain rfl : bs = true := hbi.2 hS
      simp only [hS, rest, fright, ne_eq, Int.reduceEq, reduceIte, not_true_eq_false, not_false_eq_true, false_and, true_and, or_false, false_or, and_true, and_false, or_true, true_or, decide_eq_true_eq, Bool.false_eq_true, beq_iff_eq, eq_self, if_true, if_false, Int.reduceBEq, or_self, gt_iff_lt]
      repeat' split
      all_goals first | exact false_decide id | exact false_decide (by omega) | exact true_decide (by omega) | exact some_decide (by omega) | (exfalso; omega)
    · obtain rfl : bs = false := by cases bs with | false => rfl | true => exact absurd (hbi.1 rfl) hS
      simp only [hS, rest, fright, ne_eq, Int.reduceEq, reduceIte, not_true_eq_false, not_false_eq_true, false_and, true_and, or_false, false_or, and_true, and_false, or_true, true_or, decide_eq_true_eq, Bool.false_eq_true, beq_iff_eq, eq_self, if_true, if_false, Int.reduceBEq, or_self, gt_iff_lt]
      repeat' split
      all_goals first | exact false_decide id | exact false_decide (by omega) | exact true_decide (by omega) | exact some_decide (by omega) | (exfalso; omega)
  iterate 4
    · subst h
      clear hbi
      simp only [rest, Bool.and_eq_decide, fright, ne_eq, Int.reduceEq, reduceIte, not_true_eq_false, not_false_eq_true, false_and, true_and, or_false, false_or, and_true, and_false, or_true, true_or, decide_eq_true_eq, Bool.false_eq_true, beq_iff_eq, eq_self, if_true, if_false, Int.reduceBEq, or_self, gt_iff_lt]
      repeat' split
      all_goals first | exact false_decide id | exact false_decide (by omega) | exact true_decide (by omega) | exact some_decide (by omega) | (exfalso; omega)
  · have hf := fright_else a0 a1 (cv l2) a3 l4 a5 h
    obtain ⟨h0, h1, h30, h2, h6, h7, h8, h28⟩ := h
    simp only [rest, h0, h1, h30, h2, h6, h7, h8, h28, if_false, or_self]
    split <;> exact false_decide hf
end Go.Proofs.YtbcleckapamicaaDoor.FrP
namespace Go.Proofs.YtbcleckapamicaaDoor.FrP
open Go.RowKit Go.Proofs.YtbcleckapamicaaDoorW.PrintWords Go.Proofs.YtbcleckapamicaaDoorW.PrintLast Go.Proofs.YtbcleckapamicaaDoorW.PrintMore Go.Proofs.YtbcleckapamicaaDoor.QFr Go.Proofs.YtbcleckapamicaaDoor.Vn
open Go.Proofs.YtbcleckapamicaaDoor.Gv (varint_Size.f)
open Go.Proofs.YtbcleckapamicaaDoor.Gf (ideal_Number.f tbytes)
open Go.Proofs.YtbcleckapamicaaDoor.QVa (varint_Append.f varint_Give.f shibbolethref01_Bytes.f shibbolethref01_Give.f shibbolethref01_Size.f)
open Go.Proofs.YtbcleckapamicaaDoor.VaP (append_f bytes_f size_f)
set_option linter.unusedVariables false
set_option linter.unusedSimpArgs false
def ackFrom (l : List S103) : Nat → Nat → List Int
  | _, 0 => []
  | i, d + 1 => (if 0 < i then vbytes ((rd_T103 l ((i - 1 : Nat) : Int)).f0 - (rd_T103 l (i : Int)).f1 - 2) else []) ++ vbytes ((rd_T103 l (i : Int)).f1 - (rd_T103 l (i : Int)).f0) ++ ackFrom l (i + 1) d
theorem ackFrom_len (l : List S103) : ∀ d i, (ackFrom l i d).length ≤ 16 * d := by
  intro d
  induction d with
  | zero => intro i; simp [ackFrom]
  | succ d ih =>
    intro i
    have h1 := ih (i + 1)
    have h2 := vbytes_le ((rd_T103 l ((i - 1 : Nat) : Int)).f0 - (rd_T103 l (i : Int)).f1 - 2)
    have h3 := vbytes_le ((rd_T103 l (i : Int)).f1 - (rd_T103 l (i : Int)).f0)
    simp only [ackFrom, List.length_append]
    split <;> simp <;> omega
theorem acked_l (l : List S103) (hl : l.length ≤ 100) (hok : ∀ j, j < l.length → okAt l j) : ∀ (d i k : Nat) (x : List Int), i + d = l.length → d + 20 < k → x.length + 16 * d ≤ 100000 → frame_acked.l0 k l x l (l.length : Int) (i : Int) = some (x ++ ackFrom l i d) := by
  intro d
  induction d with
  | zero =>
    intro i k x hi hk hx
    obtain ⟨k, rfl⟩ : ∃ m, k = m + 1 := ⟨k - 1, by omega⟩
    simp only [frame_acked.l0, ackFrom]
    rw [if_neg (by omega)]
    simp
  | succ d ih =>
    intro i k x hi hk hx
    obtain ⟨k, rfl⟩ : ∃ m, k = m + 1 := ⟨k - 1, by omega⟩
    have ho := hok i (by omega)
    have ho1 := ho.1
    have ho2 := ho.2.1
    have ho3 := ho.2.2.1
    have h2 := vbytes_le ((rd_T103 l ((i - 1 : Nat) : Int)).f0 - (rd_T103 l (i : Int)).f1 - 2)
    have h3 := vbytes_le ((rd_T103 l (i : Int)).f1 - (rd_T103 l (i : Int)).f0)
    have e2 : wrap64 ((rd_T103 l (i : Int)).f1 - (rd_T103 l (i : Int)).f0) = (rd_T103 l (i : Int)).f1 - (rd_T103 l (i : Int)).f0 := by unfold wrap64; omega
    simp only [frame_acked.l0, ackFrom]
    rw [if_pos (by omega), if_pos (by omega), if_pos (by omega), e2, w1 i (by omega)]
    by_cases h0 : (i : Int) > 0
    · have hp := hok (i - 1) (by omega)
      have hp1 := hp.1
      have hp2 := hp.2.1
      have hp3 := hp.2.2.1
      have ho4 := ho.2.2.2 (by omega)
      rw [if_pos h0, wm1 i (by omega) (by omega), if_pos (by omega), if_pos (by omega), if_pos (by omega)]
      have e3 : wrap64 ((wrap64 ((rd_T103 l ((i - 1 : Nat) : Int)).f0 - (rd_T103 l (i : Int)).f1)) - 2) = (rd_T103 l ((i - 1 : Nat) : Int)).f0 - (rd_T103 l (i : Int)).f1 - 2 := by unfold wrap64; omega
      rw [e3, append_f x _ (by omega) k (by omega)]
      simp only [Option.bind_some]
      rw [append_f _ _ (by simp; omega) k (by omega)]
      simp only [Option.bind_some]
      rw [ih (i + 1) k _ (by omega) (by omega) (by simp; omega)]
      simp
    · rw [if_neg h0, if_neg (by omega), append_f x _ (by omega) k (by omega)]
      simp only [Option.bind_some]
      rw [ih (i + 1) k _ (by omega) (by omega) (by simp; omega)]
      simp
theorem rack_l (l : List S102) (hl : l.length ≤ 100) (hok : ∀ j, j < (cv l).length → okAt (cv l) j) (a0 a1 a3 a5 : Int) (l4 : List Int) : ∀ (d i k : Nat) (x : List Int), i + d = l.length → d + 40 < k → x.length + 16 * d ≤ 100000 → shibbolethref06_Bytes.l1 k x (i : Int) a0 a1 l a3 l4 a5 = some (x ++ ackFrom (cv l) i d) := by
  intro d
  induction d with
  | zero =>
    intro i k x hi hk hx
    obtain ⟨k, rfl⟩ : ∃ m, k = m + 1 := ⟨k - 1, by omega⟩
    simp only [shibbolethref06_Bytes.l1, ackFrom]
    rw [if_neg (by omega)]
    simp
  | succ d ih =>
    intro i k x hi hk hx
    obtain ⟨k, rfl⟩ : ∃ m, k = m + 1 := ⟨k - 1, by omega⟩
    have hc := cv_len l
    have ho := hok i (by omega)
    have e := rd_cv l i (by omega)
    have ea : (rd_T103 (cv l) (i : Int)).f0 = (rd_T102 l (i : Int)).f0 := by rw [e]
    have eb : (rd_T103 (cv l) (i : Int)).f1 = (rd_T102 l (i : Int)).f1 := by rw [e]
    have ho1 := ho.1
    have ho2 := ho.2.1
    have ho3 := ho.2.2.1
    have h3 := vbytes_le ((rd_T102 l (i : Int)).f1 - (rd_T102 l (i : Int)).f0)
    have e2 : wrap64 ((rd_T102 l (i : Int)).f1 - (rd_T102 l (i : Int)).f0) = (rd_T102 l (i : Int)).f1 - (rd_T102 l (i : Int)).f0 := by unfold wrap64; omega
    simp only [shibbolethref06_Bytes.l1, ackFrom]
    rw [if_pos (by omega), e2, w1 i (by omega), ea, eb]
    by_cases h0 : (i : Int) > 0
    · have hp := hok (i - 1) (by omega)
      have ep := rd_cv l (i - 1) (by omega)
      have epa : (rd_T103 (cv l) ((i - 1 : Nat) : Int)).f0 = (rd_T102 l ((i - 1 : Nat) : Int)).f0 := by rw [ep]
      have hp1 := hp.1
      have hp2 := hp.2.1
      have hp3 := hp.2.2.1
      have ho4 := ho.2.2.2 (by omega)
      have h2 := vbytes_le ((rd_T102 l ((i - 1 : Nat) : Int)).f0 - (rd_T102 l (i : Int)).f1 - 2)
      rw [if_pos h0, wm1 i (by omega) (by omega), if_pos (by omega), if_pos (by omega), if_pos (by omega), if_pos (by omega), epa]
      have e3 : wrap64 ((wrap64 ((rd_T102 l ((i - 1 : Nat) : Int)).f0 - (rd_T102 l (i : Int)).f1)) - 2) = (rd_T102 l ((i - 1 : Nat) : Int)).f0 - (rd_T102 l (i : Int)).f1 - 2 := by unfold wrap64; omega
      rw [e3, bytes_f _ k (by omega), bytes_f _ k (by omega)]
      simp only [Option.bind_some]
      rw [if_pos (by omega), if_pos (by simp; omega), ih (i + 1) k _ (by omega) (by omega) (by simp; omega)]
      simp
    · rw [if_neg h0, if_pos (show (0 : Int) ≤ (i : Int) by omega), if_neg (show ¬ 0 < i by omega), bytes_f _ k (by omega)]
      simp only [Option.bind_some]
      rw [if_pos (by omega), ih (i + 1) k _ (by omega) (by omega) (by simp; omega)]
      simp
def fbytes (a0 a1 : Int) (l2 : List S103) (a3 : Int) (l4 : List Int) (a5 : Int) : List Int :=
  if a0 = 0 then List.replicate a1.toNat 0 else
  if a0 = 2 then [2] ++ vbytes (rd_T103 l2 0).f1 ++ vbytes ((l2.length : Int) - 1) ++ ackFrom l2 0 l2.length else
  if a0 = 6 then [6] ++ vbytes a3 ++ vbytes l4.length ++ l4 else
  if a0 = 7 then [7] ++ tbytes a5 else
  if a0 = 8 then [8] ++ vbytes a1 ++ tbytes a5 else
  if a0 = 28 then [28] ++ vbytes a1 else [a0 % 256]
theorem tbytes_le (h : Int) : (tbytes h).length ≤ 4 := by unfold tbytes; split <;> simp
theorem fbytes_len (a0 a1 : Int) (l2 : List S103) (a3 : Int) (l4 : List Int) (a5 : Int) (h : fright a0 a1 l2 a3 l4 a5) : (fbytes a0 a1 l2 a3 l4 a5).length ≤ 1300 := by
  unfold fright at h
  unfold fbytes
  have t := tbytes_le a5
  have v1 := vbytes_le a1
  have v3 := vbytes_le a3
  have v4 := vbytes_le (l4.length : Int)
  have v5 := vbytes_le (rd_T103 l2 0).f1
  have v6 := vbytes_le ((l2.length : Int) - 1)
  have v7 := ackFrom_len l2 l2.length 0
  rcases h with h | h | h | h | h | h | h
  · rw [if_pos h.1]; simp; omega
  · rw [if_neg (by omega), if_neg (by omega), if_neg (by omega), if_neg (by omega), if_neg (by omega), if_neg (by omega)]; simp
  · have hs := h.2.1.2.2
    rw [if_neg (by omega), if_pos h.1]; simp; omega
  · rw [if_neg (by omega), if_neg (by omega), if_pos h.1]; simp; omega
  · rw [if_neg (by omega), if_neg (by omega), if_neg (by omega), if_pos h.1]; simp; omega
  · rw [if_neg (by omega), if_neg (by omega), if_neg (by omega), if_neg (by omega), if_pos h.1]; simp; omega
  · rw [if_neg (by omega), if_neg (by omega), if_neg (by omega), if_neg (by omega), if_neg (by omega), if_pos h.1]; simp; omega
theorem give_f (l p : List Int) (hl : l.length ≤ 100000) (hp : p.length ≤ 100000) (k : Nat) (hk : 9 < k) : varint_Give.f k l p = some (l ++ vbytes p.length ++ p) := by
  have h8 := vbytes_le (p.length : Int)
  unfold varint_Give.f
  rw [append_f l _ (by omega) k hk]
  simp only [Option.bind_some]
  rw [if_pos (by rw [List.length_append]; omega)]
theorem rgive_f (p : List Int) (hp : p.length ≤ 100000) (k : Nat) (hk : 30 < k) : shibbolethref01_Give.f k p = some (vbytes p.length ++ p) := by
  have h8 := vbytes_le (p.length : Int)
  unfold shibbolethref01_Give.f
  rw [bytes_f _ k hk]
  simp only [Option.bind_some]
  rw [if_pos (by omega)]
theorem rnumber_f (h : Int) : shibbolethref04_Number.f h = some (tbytes h) := by
  unfold shibbolethref04_Number.f tbytes
  by_cases h1 : h < 1
  · rw [if_pos h1, if_pos (.inl h1)]
  by_cases h2 : h > 65536
  · rw [if_neg h1, if_pos h2, if_pos (.inr h2)]
  rw [if_neg h1, if_neg h2, if_neg (by omega), Int.tdiv_eq_ediv_of_nonneg (by omega), Int.tdiv_eq_ediv_of_nonneg (by omega), Int.tmod_eq_emod_of_nonneg (by omega : 0 ≤ h)]
  have e1 : wrap64 (h / 65536) = h / 65536 := by unfold wrap64; omega
  have e2 : wrap64 (h / 256) = h / 256 := by unfold wrap64; omega
  rw [e1, e2, Int.tmod_eq_emod_of_nonneg (by omega)]
  congr 2
  · omega
  · congr 1
    · congr 1
      · omega
      · congr 1; omega
theorem bytes_frame (a0 a1 : Int) (l2 : List S103) (a3 : Int) (l4 : List Int) (a5 : Int) (hf : fright a0 a1 l2 a3 l4 a5) (k : Nat) (hk : 200 < k) : frame_bytes.f k a0 a1 l2 a3 l4 a5 = some (fbytes a0 a1 l2 a3 l4 a5) := by
  have h := hf
  unfold fright at h
  unfold frame_bytes.f fbytes ideal_Number.f
  simp only [Option.bind_some]
  have t := tbytes_le a5
  have v1 := vbytes_le a1
  have v3 := vbytes_le a3
  have v4 := vbytes_le (l4.length : Int)
  have v5 := vbytes_le (rd_T103 l2 0).f1
  have v6 := vbytes_le ((l2.length : Int) - 1)
  have v7 := ackFrom_len l2 l2.length 0
  rcases h with h | h | h | h | h | h | h
  · rw [if_pos h.1, if_pos h.1, if_pos (by omega), if_pos (by omega)]
  · have n : a0 ≠ 0 ∧ a0 ≠ 2 ∧ a0 ≠ 6 ∧ a0 ≠ 7 ∧ a0 ≠ 8 ∧ a0 ≠ 28 := by omega
    simp [n.1, n.2.1, n.2.2.1, n.2.2.2.1, n.2.2.2.2.1, n.2.2.2.2.2]
  · obtain ⟨rfl, hS, _⟩ := h
    have hs := hS.2.2
    have hs0 := hS.2.1
    simp only [Int.reduceEq, if_false, if_true]
    unfold frame_acked.f
    have e : wrap64 ((l2.length : Int) - 1) = (l2.length : Int) - 1 := by unfold wrap64; omega
    have ha := acked_l l2 (by omega) hS.1 l2.length 0 k (vbytes (rd_T103 l2 0).f1 ++ vbytes ((l2.length : Int) - 1)) (by omega) (by omega) (by simp; omega)
    rw [if_pos (by omega), e, append_f [] _ (by simp) k (by omega)]
    simp only [Option.bind_some, List.nil_append]
    rw [append_f _ _ (by omega) k (by omega)]
    simp only [Option.bind_some]
    have ha' : frame_acked.l0 k l2 (vbytes (rd_T103 l2 0).f1 ++ vbytes ((l2.length : Int) - 1)) l2 (l2.length : Int) 0 = _ := ha
    rw [ha']
    simp only [Option.bind_some]
    rw [if_pos (by simp; omega)]
    simp
  · obtain ⟨rfl, _⟩ := h
    simp only [Int.reduceEq, if_false, if_true]
    rw [append_f _ _ (by simp) k (by omega)]
    simp only [Option.bind_some]
    rw [give_f _ _ (by simp; omega) (by omega) k (by omega)]
    simp
  · obtain ⟨rfl, _⟩ := h
    simp only [Int.reduceEq, if_false, if_true]
    rw [if_pos (by simp; omega)]
    simp
  · obtain ⟨rfl, _⟩ := h
    simp only [Int.reduceEq, if_false, if_true]
    rw [append_f _ _ (by simp) k (by omega)]
    simp only [Option.bind_some]
    rw [if_pos (by simp; omega)]
    simp
  · obtain ⟨rfl, _⟩ := h
    simp only [Int.reduceEq, if_false, if_true]
    rw [append_f _ _ (by simp) k (by omega)]
    simp
theorem zeros_l (a0 a1 : Int) (l2 : List S102) (a3 : Int) (l4 : List Int) (a5 : Int) (h1 : 1 ≤ a1) (h2 : a1 ≤ 1200) : ∀ (d i k : Nat), i + d = a1.toNat → d < k → shibbolethref06_Bytes.l0 k (List.replicate i 0) (i : Int) a0 a1 l2 a3 l4 a5 = some (List.replicate a1.toNat 0) := by
  intro d
  induction d with
  | zero =>
    intro i k hi hk
    obtain ⟨k, rfl⟩ : ∃ m, k = m + 1 := ⟨k - 1, by omega⟩
    simp only [shibbolethref06_Bytes.l0]
    rw [if_neg (by omega), show i = a1.toNat from by omega]
  | succ d ih =>
    intro i k hi hk
    obtain ⟨k, rfl⟩ : ∃ m, k = m + 1 := ⟨k - 1, by omega⟩
    simp only [shibbolethref06_Bytes.l0]
    rw [if_pos (by omega), if_pos (by simp; omega), w1 i (by omega), show List.replicate i (0 : Int) ++ [0] = List.replicate (i + 1) 0 from by rw [List.replicate_succ']]
    exact ih (i + 1) k (by omega) (by omega)
theorem rbytes_frame (a0 a1 : Int) (l2 : List S102) (a3 : Int) (l4 : List Int) (a5 : Int) (hf : fright a0 a1 (cv l2) a3 l4 a5) (k : Nat) (hk : 1300 < k) : shibbolethref06_Bytes.f k a0 a1 l2 a3 l4 a5 = some (fbytes a0 a1 (cv l2) a3 l4 a5) := by
  have h := hf
  unfold fright at h
  have hc := cv_len l2
  unfold shibbolethref06_Bytes.f fbytes
  simp only [Option.bind_some, rnumber_f]
  have t := tbytes_le a5
  have v1 := vbytes_le a1
  have v3 := vbytes_le a3
  have v4 := vbytes_le (l4.length : Int)
  have v6 := vbytes_le ((l2.length : Int) - 1)
  rcases h with h | h | h | h | h | h | h
  · rw [if_pos h.1, if_pos h.1]
    have hz := zeros_l a0 a1 l2 a3 l4 a5 (by omega) (by omega) (a1.toNat - 1) 1 k (by omega) (by omega)
    rw [h.1] at hz ⊢
    exact hz
  · have n : a0 ≠ 0 ∧ a0 ≠ 2 ∧ a0 ≠ 6 ∧ a0 ≠ 7 ∧ a0 ≠ 8 ∧ a0 ≠ 28 := by omega
    simp [n.1, n.2.1, n.2.2.1, n.2.2.2.1, n.2.2.2.2.1, n.2.2.2.2.2]
  · obtain ⟨rfl, hS, _⟩ := h
    have hs := hS.2.2
    have hs0 := hS.2.1
    simp only [Int.reduceEq, if_false, if_true]
    have e : wrap64 ((l2.length : Int) - 1) = (l2.length : Int) - 1 := by unfold wrap64; omega
    have e0 : (rd_T103 (cv l2) 0).f1 = (rd_T102 l2 0).f1 := by have := rd_cv l2 0 (by omega); rw [show ((0 : Nat) : Int) = 0 from rfl] at this; rw [this]
    have v5 := vbytes_le (rd_T102 l2 0).f1
    have v7 := ackFrom_len (cv l2) l2.length 0
    have ha := rack_l l2 (by omega) hS.1 2 a1 a3 a5 l4 l2.length 0 k ([2] ++ vbytes (rd_T102 l2 0).f1 ++ vbytes ((l2.length : Int) - 1)) (by omega) (by omega) (by simp; omega)
    rw [if_pos (by omega), e, bytes_f _ k (by omega), bytes_f _ k (by omega), e0, hc]
    simp only [Option.bind_some]
    rw [if_pos (by simp; omega), if_pos (by simp; omega)]
    exact ha
  · obtain ⟨rfl, _⟩ := h
    simp only [Int.reduceEq, if_false, if_true]
    rw [bytes_f _ k (by omega), rgive_f _ (by omega) k (by omega)]
    simp only [Option.bind_some]
    rw [if_pos (by simp; omega), if_pos (by simp; omega)]
    simp
  · obtain ⟨rfl, _⟩ := h
    simp only [Int.reduceEq, if_false, if_true]
    rw [if_pos (by simp; omega)]
    simp
  · obtain ⟨rfl, _⟩ := h
    simp only [Int.reduceEq, if_false, if_true]
    rw [bytes_f _ k (by omega)]
    simp only [Option.bind_some]
    rw [if_pos (by simp; omega), if_pos (by simp; omega)]
    simp
  · obtain ⟨rfl, _⟩ := h
    simp only [Int.reduceEq, if_false, if_true]
    rw [bytes_f _ k (by omega)]
    simp only [Option.bind_some]
    rw [if_pos (by simp; omega)]
    simp
end Go.Proofs.YtbcleckapamicaaDoor.FrP
namespace Go.Proofs.YtbcleckapamicaaDoor.FrP
open Go.RowKit Go.Proofs.YtbcleckapamicaaDoorW.PrintWords Go.Proofs.YtbcleckapamicaaDoorW.PrintLast Go.Proofs.YtbcleckapamicaaDoorW.PrintMore Go.Proofs.YtbcleckapamicaaDoor.QFr Go.Proofs.YtbcleckapamicaaDoor.Vn
set_option linter.unusedVariables false
set_option linter.unusedSimpArgs false
def cvF (x : S62) : S58 := ⟨x.f0, x.f1, cv x.f2, x.f3, x.f4, x.f5⟩
theorem rd_map (L : List S62) (i : Nat) (h : i < L.length) : rd_T58 (L.map cvF) (i : Int) = cvF (rd_T62 L (i : Int)) := by
  simp [rd_T58, rd_T62, List.getD_eq_getElem?_getD, List.getElem?_map, List.getElem?_eq_getElem h]
def frAt (x : S62) : Prop := fright x.f0 x.f1 (cv x.f2) x.f3 x.f4 x.f5
def fbAt (x : S62) : List Int := fbytes x.f0 x.f1 (cv x.f2) x.f3 x.f4 x.f5
def from_ (L : List S62) : Nat → Nat → List Int
  | _, 0 => []
  | i, d + 1 => fbAt (rd_T62 L (i : Int)) ++ from_ L (i + 1) d
theorem write_l0 (L : List S62) (hn : L.length ≤ 30) (hs : ∀ j, j < L.length → (rd_T62 L ((j : Nat) : Int)).f2.length ≤ 50) : ∀ (d i k : Nat), i + d = L.length → d + 1400 < k →
    (frame_Write.l0 k (L.map cvF) (L.map cvF) (L.length : Int) (i : Int) = some (([] : List Int), 1) ∧ shibbolethref06_Write.l0 k L (i : Int) = some (([] : List Int), 1)) ∨
    ((∀ j, i ≤ j → j < L.length → frAt (rd_T62 L (j : Int))) ∧ frame_Write.l0 k (L.map cvF) (L.map cvF) (L.length : Int) (i : Int) = frame_Write.l1 (k - d - 1) [] (L.map cvF) (L.length : Int) 0 ∧ shibbolethref06_Write.l0 k L (i : Int) = shibbolethref06_Write.l1 (k - d - 1) L [] 0) := by
  intro d
  induction d with
  | zero =>
    intro i k hi hk
    obtain ⟨k, rfl⟩ : ∃ m, k = m + 1 := ⟨k - 1, by omega⟩
    right
    refine ⟨fun j h1 h2 => by omega, ?_, ?_⟩
    · simp only [frame_Write.l0]
      rw [if_neg (by omega)]
      simp
    · simp only [shibbolethref06_Write.l0]
      rw [if_neg (by omega)]
      simp
  | succ d ih =>
    intro i k hi hk
    obtain ⟨k, rfl⟩ : ∃ m, k = m + 1 := ⟨k - 1, by omega⟩
    have hm : (L.map cvF).length = L.length := by simp
    have hi' : i < L.length := by omega
    have hsi := hs i hi'
    have e := rd_map L i hi'
    obtain ⟨b, hb, hbi⟩ := right_f (rd_T62 L (i : Int)).f0 (rd_T62 L (i : Int)).f1 (cv (rd_T62 L (i : Int)).f2) (rd_T62 L (i : Int)).f3 (rd_T62 L (i : Int)).f4 (rd_T62 L (i : Int)).f5 (by rw [cv_len]; omega) k (by omega)
    obtain ⟨c, hc, hci⟩ := Right_f (rd_T62 L (i : Int)).f0 (rd_T62 L (i : Int)).f1 (rd_T62 L (i : Int)).f2 (rd_T62 L (i : Int)).f3 (rd_T62 L (i : Int)).f4 (rd_T62 L (i : Int)).f5 (by omega) k (by omega)
    have hbc : b = c := by rw [Bool.eq_iff_iff, hbi, hci]
    subst hbc
    have ih' := ih (i + 1) k (by omega) (by omega)
    have hk' : k + 1 - (d + 1) - 1 = k - d - 1 := by omega
    simp only [frame_Write.l0, shibbolethref06_Write.l0]
    simp only [if_pos (show (i : Int) < (L.length : Int) by omega), if_pos (show (0 : Int) ≤ (i : Int) by omega), if_pos (show (i : Int) < ((L.map cvF).length : Int) by omega), e]
    simp only [cvF, hb, hc, Option.bind_some, hk']
    by_cases hbt : b = true
    · simp only [if_pos hbt, w1 i (show i < 100000 by omega)]
      have step : (frame_Write.l0 k (L.map cvF) (L.map cvF) (L.length : Int) ((i + 1 : Nat) : Int) = some (([] : List Int), 1) ∧ shibbolethref06_Write.l0 k L ((i + 1 : Nat) : Int) = some (([] : List Int), 1)) ∨
          ((∀ j, i ≤ j → j < L.length → frAt (rd_T62 L (j : Int))) ∧ frame_Write.l0 k (L.map cvF) (L.map cvF) (L.length : Int) ((i + 1 : Nat) : Int) = frame_Write.l1 (k - d - 1) [] (L.map cvF) (L.length : Int) 0 ∧ shibbolethref06_Write.l0 k L ((i + 1 : Nat) : Int) = shibbolethref06_Write.l1 (k - d - 1) L [] 0) := by
        rcases ih' with h | ⟨h1, h2, h3⟩
        · exact .inl h
        · refine .inr ⟨fun j hj1 hj2 => ?_, h2, h3⟩
          rcases Nat.lt_or_ge i j with hij | hij
          · exact h1 j (by omega) hj2
          · have : j = i := by omega
            rw [this]; exact hbi.1 hbt
      by_cases h0 : (i : Int) > 0
      · simp only [if_pos h0]
        have ep := rd_map L (i - 1) (by omega)
        by_cases hz : (rd_T62 L (i : Int)).f0 = 0
        · simp only [if_pos hz, wm1 i (show 0 < i by omega) (show i < 100000 by omega), if_pos (show (0 : Int) ≤ ((i - 1 : Nat) : Int) by omega), if_pos (show ((i - 1 : Nat) : Int) < ((L.map cvF).length : Int) by omega), if_pos (show ((i - 1 : Nat) : Int) < (L.length : Int) by omega), ep]
          by_cases hz' : (rd_T62 L ((i - 1 : Nat) : Int)).f0 = 0
          · have hz2 : (cvF (rd_T62 L ((i - 1 : Nat) : Int))).f0 = 0 := hz'
            simp only [if_pos hz', if_pos hz2]
            exact .inl ⟨trivial, trivial⟩
          · have hz2 : ¬ (cvF (rd_T62 L ((i - 1 : Nat) : Int))).f0 = 0 := hz'
            simp only [if_neg hz', if_neg hz2]
            exact step
        · simp only [if_neg hz]
          exact step
      · simp only [if_neg h0]
        exact step
    · simp only [if_neg hbt]
      exact .inl ⟨trivial, trivial⟩
def told (x : List Int) : List Int × Int := if (x.length : Int) > 1200 then ([], 4) else (x, 0)
theorem write_l1 (L : List S62) (hn : L.length ≤ 30) (hs : ∀ j, j < L.length → frAt (rd_T62 L ((j : Nat) : Int))) : ∀ (d i k : Nat) (x : List Int), i + d = L.length → d + 1300 < k → x.length ≤ 1200 →
    frame_Write.l1 k x (L.map cvF) (L.length : Int) (i : Int) = some (told (x ++ from_ L i d)) := by
  intro d
  induction d with
  | zero =>
    intro i k x hi hk hx
    obtain ⟨k, rfl⟩ : ∃ m, k = m + 1 := ⟨k - 1, by omega⟩
    simp only [frame_Write.l1]
    rw [if_neg (by omega), show from_ L i 0 = [] from rfl, List.append_nil]
    unfold told
    rw [if_neg (by omega)]
  | succ d ih =>
    intro i k x hi hk hx
    obtain ⟨k, rfl⟩ : ∃ m, k = m + 1 := ⟨k - 1, by omega⟩
    have hm : (L.map cvF).length = L.length := by simp
    have hi' : i < L.length := by omega
    have hr := hs i hi'
    have hlen := fbytes_len _ _ _ _ _ _ hr
    simp only [frame_Write.l1, from_]
    rw [if_pos (by omega), if_pos (by omega), if_pos (by omega), rd_map L i hi']
    simp only [cvF]
    rw [bytes_frame _ _ _ _ _ _ hr k (by omega)]
    simp only [Option.bind_some]
    rw [if_pos (by omega), w1 i (by omega)]
    by_cases hq : ((x ++ fbAt (rd_T62 L (i : Int))).length : Int) > 1200
    · have hq' : ((x ++ (fbAt (rd_T62 L (i : Int)) ++ from_ L (i + 1) d)).length : Int) > 1200 := by simp only [List.length_append] at hq ⊢; omega
      unfold told
      rw [if_pos hq']
      unfold fbAt at hq
      rw [if_pos hq]
    · have := ih (i + 1) k (x ++ fbAt (rd_T62 L (i : Int))) (by omega) (by omega) (by omega)
      rw [List.append_assoc] at this
      unfold fbAt at hq this ⊢
      rw [if_neg hq]
      exact this
theorem rwrite_l1 (L : List S62) (hn : L.length ≤ 30) (hs : ∀ j, j < L.length → frAt (rd_T62 L ((j : Nat) : Int))) : ∀ (d i k : Nat) (x : List Int), i + d = L.length → d + 1400 < k → x.length + 1300 * d ≤ 100000 →
    shibbolethref06_Write.l1 k L x (i : Int) = some (told (x ++ from_ L i d)) := by
  intro d
  induction d with
  | zero =>
    intro i k x hi hk hx
    obtain ⟨k, rfl⟩ : ∃ m, k = m + 1 := ⟨k - 1, by omega⟩
    simp only [shibbolethref06_Write.l1]
    rw [if_neg (by omega), show from_ L i 0 = [] from rfl, List.append_nil]
    unfold told
    split <;> rfl
  | succ d ih =>
    intro i k x hi hk hx
    obtain ⟨k, rfl⟩ : ∃ m, k = m + 1 := ⟨k - 1, by omega⟩
    have hi' : i < L.length := by omega
    have hr := hs i hi'
    have hlen := fbytes_len _ _ _ _ _ _ hr
    simp only [shibbolethref06_Write.l1, from_]
    rw [if_pos (by omega), if_pos (by omega), rbytes_frame _ _ _ _ _ _ hr k (by omega)]
    simp only [Option.bind_some]
    rw [if_pos (by omega), w1 i (by omega)]
    have := ih (i + 1) k (x ++ fbAt (rd_T62 L (i : Int))) (by omega) (by omega) (by simp only [List.length_append, fbAt]; omega)
    rw [List.append_assoc] at this
    exact this
theorem writes (L : List S62) (hn : L.length ≤ 30) (hs : ∀ j, j < L.length → (rd_T62 L ((j : Nat) : Int)).f2.length ≤ 50) (k : Nat) (hk : 2900 < k) :
    ∃ x e, frame_Write.f k (L.map cvF) = some (x, e) ∧ shibbolethref06_Write.f k L = some (x, e) ∧ x.length ≤ 1200 := by
  unfold frame_Write.f shibbolethref06_Write.f
  have hm : (L.map cvF).length = L.length := by simp
  rw [hm]
  by_cases h0 : (L.length : Int) = 0
  · rw [if_pos h0, if_pos h0]; exact ⟨_, _, rfl, rfl, by simp⟩
  rw [if_neg h0, if_neg h0]
  rcases write_l0 L hn hs L.length 0 k (by omega) (by omega) with ⟨h1, h2⟩ | ⟨h1, h2, h3⟩
  · exact ⟨_, _, h1, h2, by simp⟩
  · have a := write_l1 L hn (fun j hj => h1 j (by omega) hj) L.length 0 (k - L.length - 1) [] (by omega) (by omega) (by simp)
    have b := rwrite_l1 L hn (fun j hj => h1 j (by omega) hj) L.length 0 (k - L.length - 1) [] (by omega) (by omega) (by simp; omega)
    refine ⟨(told ([] ++ from_ L 0 L.length)).1, (told ([] ++ from_ L 0 L.length)).2, h2.trans a, h3.trans b, ?_⟩
    unfold told
    split
    · simp
    · simp only []; omega
theorem of_l (a0 a1 : Int) (l2 : List S102) (a3 : Int) (l4 : List Int) (a5 : Int) (b0 b1 : Int) (b3 : Int) (b4 : List Int) (b5 : Int) (hl : l2.length ≤ 100) : ∀ (d i k : Nat), i + d = l2.length → d < k →
    shibbolethlaw06_of.l0 k (i : Int) a0 a1 l2 a3 l4 a5 b0 b1 (cv (l2.take i)) b3 b4 b5 = some (b0, b1, cv l2, b3, b4, b5) := by
  intro d
  induction d with
  | zero =>
    intro i k hi hk
    obtain ⟨k, rfl⟩ : ∃ m, k = m + 1 := ⟨k - 1, by omega⟩
    simp only [shibbolethlaw06_of.l0]
    rw [if_neg (by omega), List.take_of_length_le (by omega)]
  | succ d ih =>
    intro i k hi hk
    obtain ⟨k, rfl⟩ : ∃ m, k = m + 1 := ⟨k - 1, by omega⟩
    have hi' : i < l2.length := by omega
    simp only [shibbolethlaw06_of.l0]
    rw [if_pos (by omega), if_pos (by omega), if_pos (by rw [cv_len, List.length_take]; omega), w1 i (by omega)]
    have e : cv (l2.take i) ++ [(⟨(rd_T102 l2 (i : Int)).f0, (rd_T102 l2 (i : Int)).f1⟩ : S103)] = cv (l2.take (i + 1)) := by
      rw [List.take_succ_eq_append_getElem hi']
      unfold cv
      rw [List.map_append]
      have q : rd_T102 l2 (i : Int) = l2[i] := by simp [rd_T102, List.getD_eq_getElem?_getD, List.getElem?_eq_getElem hi']
      rw [q]; rfl
    rw [e]
    exact ih (i + 1) k (by omega) (by omega)
theorem of_f (x : S62) (hl : x.f2.length ≤ 100) (h4 : x.f4.length ≤ 2000) (k : Nat) (hk : 100 < k) : shibbolethlaw06_of.f k x.f0 x.f1 x.f2 x.f3 x.f4 x.f5 = some (x.f0, x.f1, cv x.f2, x.f3, x.f4, x.f5) := by
  unfold shibbolethlaw06_of.f
  simp only [Option.bind_some, List.length_nil, List.nil_append]
  rw [if_pos (by omega)]
  exact of_l x.f0 x.f1 x.f2 x.f3 x.f4 x.f5 x.f0 x.f1 x.f3 x.f4 x.f5 hl x.f2.length 0 k (by omega) (by omega)
theorem all_l (L : List S62) (hn : L.length ≤ 30) (hs : ∀ j, j < L.length → (rd_T62 L ((j : Nat) : Int)).f2.length ≤ 50 ∧ (rd_T62 L ((j : Nat) : Int)).f4.length ≤ 1100) : ∀ (d i k : Nat), i + d = L.length → d + 200 < k →
    shibbolethlaw06_all.l0 k L ((L.take i).map cvF) (i : Int) = some (L.map cvF) := by
  intro d
  induction d with
  | zero =>
    intro i k hi hk
    obtain ⟨k, rfl⟩ : ∃ m, k = m + 1 := ⟨k - 1, by omega⟩
    simp only [shibbolethlaw06_all.l0]
    rw [if_neg (by omega), List.take_of_length_le (by omega)]
  | succ d ih =>
    intro i k hi hk
    obtain ⟨k, rfl⟩ : ∃ m, k = m + 1 := ⟨k - 1, by omega⟩
    have hi' : i < L.length := by omega
    have hq := hs i hi'
    simp only [shibbolethlaw06_all.l0]
    rw [if_pos (by omega), if_pos (by omega), of_f _ (by omega) (by omega) k (by omega)]
    simp only [Option.bind_some]
    rw [if_pos (by rw [List.length_map, List.length_take]; omega), w1 i (by omega)]
    have e : (L.take i).map cvF ++ [(⟨(rd_T62 L (i : Int)).f0, (rd_T62 L (i : Int)).f1, cv (rd_T62 L (i : Int)).f2, (rd_T62 L (i : Int)).f3, (rd_T62 L (i : Int)).f4, (rd_T62 L (i : Int)).f5⟩ : S58)] = (L.take (i + 1)).map cvF := by
      rw [List.take_succ_eq_append_getElem hi', List.map_append]
      have q : rd_T62 L (i : Int) = L[i] := by simp [rd_T62, List.getD_eq_getElem?_getD, List.getElem?_eq_getElem hi']
      rw [q]; rfl
    rw [e]
    exact ih (i + 1) k (by omega) (by omega)
theorem light_l (L : List S62) (hn : L.length ≤ 30) : ∀ (d i k : Nat), i + d = L.length → d < k → ∃ b, shibbolethlaw06_light.l0 k L (i : Int) = some b ∧ (b = true → ∀ j, i ≤ j → j < L.length → (rd_T62 L ((j : Nat) : Int)).f2.length ≤ 50 ∧ (rd_T62 L ((j : Nat) : Int)).f4.length ≤ 1100) := by
  intro d
  induction d with
  | zero =>
    intro i k hi hk
    obtain ⟨k, rfl⟩ : ∃ m, k = m + 1 := ⟨k - 1, by omega⟩
    simp only [shibbolethlaw06_light.l0]
    rw [if_neg (by omega)]
    exact ⟨_, rfl, fun _ j h1 h2 => by omega⟩
  | succ d ih =>
    intro i k hi hk
    obtain ⟨k, rfl⟩ : ∃ m, k = m + 1 := ⟨k - 1, by omega⟩
    simp only [shibbolethlaw06_light.l0]
    rw [if_pos (by omega), if_pos (by omega), w1 i (by omega)]
    by_cases h1 : ((rd_T62 L (i : Int)).f2.length : Int) > 50
    · rw [if_pos h1]; exact ⟨_, rfl, fun h => by cases h⟩
    by_cases h2 : ((rd_T62 L (i : Int)).f4.length : Int) > 1100
    · rw [if_neg h1, if_pos h2]; exact ⟨_, rfl, fun h => by cases h⟩
    rw [if_neg h1, if_neg h2]
    obtain ⟨b, hb, hbi⟩ := ih (i + 1) k (by omega) (by omega)
    refine ⟨b, hb, fun h j hj1 hj2 => ?_⟩
    rcases Nat.lt_or_ge i j with hij | hij
    · exact hbi h j (by omega) hj2
    · have : j = i := by omega
      rw [this]; exact ⟨by omega, by omega⟩
end Go.Proofs.YtbcleckapamicaaDoor.FrP
namespace Go.Proofs.YtbcleckapamicaaDoor.Pure
open Go.RowKit Go.Proofs.YtbcleckapamicaaDoor.QFr Go.Proofs.YtbcleckapamicaaDoor.Vn Go.Proofs.YtbcleckapamicaaDoor.FrP Go.Proofs.YtbcleckapamicaaDoorW.PrintWords
set_option linter.unusedVariables false
set_option linter.unusedSimpArgs false
theorem spans2 : spansOK [⟨7, 7⟩, ⟨3, 5⟩] := by
  refine ⟨fun j hj => ?_, by simp, by simp⟩
  have : j = 0 ∨ j = 1 := by simp at hj; omega
  rcases this with rfl | rfl
  · simp [okAt, rd_T103]
  · simp [okAt, rd_T103]
theorem frame2 : fright 2 0 [⟨7, 7⟩, ⟨3, 5⟩] 0 [] 0 := by
  unfold fright
  exact .inr (.inr (.inl ⟨rfl, spans2, rfl, rfl, rfl, rfl⟩))
theorem fawake_f (k : Nat) (hk : 1500 < k) : shibbolethlaw06_awake.f k = some true := by
  obtain ⟨k, rfl⟩ : ∃ m, k = m + 2 := ⟨k - 2, by omega⟩
  obtain ⟨b, hb, hbi⟩ := right_f 2 0 [⟨7, 7⟩, ⟨3, 5⟩] 0 [] 0 (by simp) (k + 1) (by omega)
  have hbt : b = true := hbi.2 frame2
  subst hbt
  have hw := write_l1 [⟨2, 0, [⟨7, 7⟩, ⟨3, 5⟩], 0, [], 0⟩] (by simp) (fun j hj => by
    have : j = 0 := by simp at hj; omega
    rw [this]; exact frame2) 1 0 k [] (by simp) (by omega) (by simp)
  have ht : told ([] ++ from_ [⟨2, 0, [⟨7, 7⟩, ⟨3, 5⟩], 0, [], 0⟩] 0 1) = ([2, 7, 1, 0, 0, 2], 0) := by
    simp [told, from_, fbAt, fbytes, ackFrom, vbytes, rd_T62, rd_T103, cv]
  rw [ht] at hw
  have h : frame_Write.f (k + 2) (([(⟨2, 0, (([(⟨7, 7⟩ : S103), (⟨3, 5⟩ : S103)] : List (S103))), 0, ([] : List Int), 0⟩ : S58)] : List (S58))) = some ([2, 7, 1, 0, 0, 2], 0) := by
    have z : wrap64 (0 + 1) = 1 := by decide +kernel
    unfold frame_Write.f
    rw [if_neg (by simp), show k + 2 = (k + 1) + 1 from rfl]
    rw [frame_Write.l0, if_pos (by simp), if_pos (by simp), if_pos (by simp)]
    rw [show rd_T58 (([(⟨2, 0, (([(⟨7, 7⟩ : S103), (⟨3, 5⟩ : S103)] : List (S103))), 0, ([] : List Int), 0⟩ : S58)] : List (S58))) 0 = ⟨2, 0, [⟨7, 7⟩, ⟨3, 5⟩], 0, [], 0⟩ from rfl]
    rw [hb]
    simp only [Option.bind_some, if_true]
    rw [if_neg (by simp), z, frame_Write.l0, if_neg (by simp)]
    exact hw
  unfold shibbolethlaw06_awake.f
  rw [h]
  simp only [Option.bind_some, if_true]
  rw [fsame_f _ (by simp) _ (by simp; omega)]
  rfl
theorem main_l (L : List S62) (hn : L.length ≤ 30) (hs : ∀ j, j < L.length → (rd_T62 L ((j : Nat) : Int)).f2.length ≤ 50 ∧ (rd_T62 L ((j : Nat) : Int)).f4.length ≤ 1100) : ∀ (d i k : Nat), i + d = L.length → d + 4000 < k →
    shibbolethlaw06_FrameWrites.l0 k L (i : Int) = some true := by
  intro d
  induction d with
  | zero =>
    intro i k hi hk
    obtain ⟨k, rfl⟩ : ∃ m, k = m + 1 := ⟨k - 1, by omega⟩
    simp only [shibbolethlaw06_FrameWrites.l0]
    rw [if_neg (by omega)]
    have ha : shibbolethlaw06_all.f k L = some (L.map cvF) := all_l L hn hs L.length 0 k (by omega) (by omega)
    obtain ⟨x, e, h1, h2, h3⟩ := writes L hn (fun j hj => (hs j hj).1) k (by omega)
    rw [ha]
    simp only [Option.bind_some]
    rw [h1, h2]
    simp only [Option.bind_some]
    rw [fsame_f x (by omega) k (by omega)]
    simp [fawake_f k (by omega)]
  | succ d ih =>
    intro i k hi hk
    obtain ⟨k, rfl⟩ : ∃ m, k = m + 1 := ⟨k - 1, by omega⟩
    have hi' : i < L.length := by omega
    have hq := hs i hi'
    obtain ⟨b, hb, hbi⟩ := right_f (rd_T62 L (i : Int)).f0 (rd_T62 L (i : Int)).f1 (cv (rd_T62 L (i : Int)).f2) (rd_T62 L (i : Int)).f3 (rd_T62 L (i : Int)).f4 (rd_T62 L (i : Int)).f5 (by rw [cv_len]; omega) k (by omega)
    obtain ⟨c, hc, hci⟩ := Right_f (rd_T62 L (i : Int)).f0 (rd_T62 L (i : Int)).f1 (rd_T62 L (i : Int)).f2 (rd_T62 L (i : Int)).f3 (rd_T62 L (i : Int)).f4 (rd_T62 L (i : Int)).f5 (by omega) k (by omega)
    have hbc : b = c := by rw [Bool.eq_iff_iff, hbi, hci]
    subst hbc
    simp only [shibbolethlaw06_FrameWrites.l0]
    rw [if_pos (by omega), if_pos (by omega), of_f _ (by omega) (by omega) k (by omega)]
    simp only [Option.bind_some, hb, hc, bne_self_eq_false]
    rw [if_neg (by decide), w1 i (by omega)]
    exact ih (i + 1) k (by omega) (by omega)
theorem FrameWrites : frameWritesPrm.Pure := by
  intro L _
  refine ⟨5000, ?_⟩
  unfold shibbolethlaw06_FrameWrites.f shibbolethlaw06_light.f
  by_cases hn : (L.length : Int) > 30
  · rw [if_pos hn]
    simp
  rw [if_neg hn]
  obtain ⟨b, hb, hbi⟩ := light_l L (by omega) L.length 0 5000 (by omega) (by omega)
  have hb' : shibbolethlaw06_light.l0 5000 L 0 = some b := hb
  rw [hb']
  simp only [Option.bind_some]
  by_cases h : b = true
  · rw [if_pos h]
    exact main_l L (by omega) (fun j hj => hbi h j (by omega) hj) L.length 0 5000 (by omega) (by omega)
  · rw [if_neg h]
end Go.Proofs.YtbcleckapamicaaDoor.Pure
namespace Go.Proofs.YtbcleckapamicaaDoor.Tab
open Go.RowKit Go.Proofs.YtbcleckapamicaaDoor.Gv
set_option linter.unusedVariables false
def laid {H : Type} : List (String × DataW H) := [((Rows.varintWritesRow.named).getD 0 default, Rows.laid_math_bits_deBruijn32tab), ((Rows.varintWritesRow.named).getD 1 default, Rows.laid_math_bits_deBruijn64tab)]
theorem g64 : Tryd.prog.globalNamed ((Rows.varintWritesRow.named).getD 1 default) = some 1 := by kernel_rfl
theorem ty64 : (Tryd.prog.globals[1]?).map (·.type) = some 146 := by kernel_rfl
theorem of_laid {W : World} (h : laidMet Tryd.prog laid W) : TB W := by
  have h2 : laidMet Tryd.prog [((Rows.varintWritesRow.named).getD 1 default, Lib.tabData .u8 tab64)] W := h.tail
  have ht : Lib.TabIs Tryd.prog W ((Rows.varintWritesRow.named).getD 1 default) .u8 tab64 := Lib.tabIs_of_head g64 ty64 Tryd.underlying146 Tryd.underlying5 (by kernel_rfl) (by kernel_rfl) h2
  exact ⟨fun i hi => ht.cell g64 i hi⟩
def tab32 : List Int := [0, 1, 28, 2, 29, 14, 24, 3, 30, 22, 20, 15, 25, 17, 4, 8, 31, 27, 13, 23, 21, 19, 16, 7, 26, 12, 18, 6, 11, 5, 10, 9]
noncomputable def laidWorld (os : Os) : World :=
  let w0 := World.holding Tryd.prog os ⟨#[], #[], []⟩
  { w0 with heap := (w0.heap.modify 0 fun
      | .cells _ t frozen => .cells (tab32.map fun z => Value.int .u8 z).toArray t frozen
      | o => o).modify 1 fun
      | .cells _ t frozen => .cells (tab64.map fun z => Value.int .u8 z).toArray t frozen
      | o => o }
set_option maxRecDepth 100000 in
theorem laidWorld_met (os : Os) (args : Array Value) : laidMet Tryd.prog laid ((laidWorld os).forCall (fun _ _ => 0) ⟨#[], args, []⟩).memory :=
  laidMet_of_run' 8 (by kernel_rfl) (by kernel_rfl)
end Go.Proofs.YtbcleckapamicaaDoor.Tab
