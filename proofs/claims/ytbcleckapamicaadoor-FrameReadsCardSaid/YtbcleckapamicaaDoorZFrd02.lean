/- A part of the proof of the law FrameReads: QFrx0, QFxx0, QVax0, Vn, Gv0, Gv1, QVax1, QVax3, Gw0, Gw1, Gf0. -/
import Derived.Test.YtbcleckapamicaaDoorProg
import Derived.Below
import Derived.Deep.Draws
import Derived.Deep.AppendLies
import Derived.Maps.AppendAt
import Derived.OwnWalk
import Derived.Laws.BytesArg
import Derived.Laws.MakeOwn
import Derived.Laws.OwnMore
import Derived.Deep.OwnRows
import Derived.Tactics
import Derived.Lib.ConvBytes
import Derived.Laws.Slices
import Derived.WalkKit
import Derived.KernelRfl
import Derived.RowKit3
import Derived.Deep.LoopGhost
import Derived.Deep.QuietTactic
import Derived.BigQuiet
import Derived.WideLaws
import Derived.Deep.DeepCutAuto
import Derived.Deep.CutBlock
import Derived.Deep.RegionHeld3
import Derived.Laws.Rows
import Derived.Lib.AppendStr
import Derived.ArgAppend
import Derived.Laws.IdiomCopy
import Derived.OrdersHeld
import Derived.Laws.BitsLemmas
import Derived.RowKit
import Derived.Test.YtbcleckapamicaaDoorZFrd00
import Derived.Test.YtbcleckapamicaaDoorZFrd01
import Derived.Laws.BitsAllLaws
import Derived.WalkSpells
import Derived.Lib.SliceRun
import Derived.Lib.AppendZeros
namespace Go.Proofs.YtbcleckapamicaaDoor.QFr
open Go.RowKit Go.Proofs.YtbcleckapamicaaDoorW.PrintWords Go.Proofs.YtbcleckapamicaaDoorW.PrintLast Go.Proofs.YtbcleckapamicaaDoorW.PrintMore
attribute [local go_sem] max2_int min2_int max_two min_two max_three min_three max_four min_four
set_option linter.unusedVariables false
set_option linter.unusedSimpArgs false
set_option hygiene false
local macro "lb10_" : tactic => `(tactic| (obtain ⟨_, _, rfl, rfl, ⟨_, _, rfl, rfl, ⟨_, _, rfl, ⟨A2, c2, rfl, l2, g2⟩, ⟨_, _, rfl, rfl, ⟨_, _, rfl, ⟨A4, c4, rfl, l4, g4⟩, rfl⟩⟩⟩⟩⟩ := h))
local macro "lb11_" : tactic => `(tactic| (exact ⟨ad, A2, c2, A4, c4, e, hc 0 _ rfl, by rw [← add_field _ _ 1 (by omega)]; exact hc 1 _ rfl, by rw [← add_field _ _ 2 (by omega)]; exact hc 2 _ rfl, by rw [← add_field _ _ 3 (by omega)]; exact hc 3 _ rfl, by rw [← add_field _ _ 4 (by omega)]; exact hc 4 _ rfl, by rw [← add_field _ _ 5 (by omega)]; exact hc 5 _ rfl, l2, g2, l4, g4⟩))
set_option hygiene true
def errW : Option Int → Value
 | none => .nilIface
 | some c => .iface 0 (.int .i64 c)
theorem errW_none : errW none = .nilIface := rfl
theorem errW_some (c : Int) : errW (some c) = .iface 0 (.int .i64 c) := rfl
theorem info5 : (Tryd.prog.info? 5).map (fun i => (i.zero, i.size, i.bytes)) = some (some (.int .u8 0), 1, 1) := by kernel_rfl
theorem info58 : (Tryd.prog.info? 58).map (fun i => (i.zero, i.size, i.bytes)) = some (some (.agg #[(.int .i64 0), (.int .i64 0), (.slice none 0 0), (.int .i64 0), (.slice none 0 0), (.int .i64 0)]), 6, 80) := by kernel_rfl
theorem info103 : (Tryd.prog.info? 103).map (fun i => (i.zero, i.size, i.bytes)) = some (some (.agg #[(.int .i64 0), (.int .i64 0)]), 2, 16) := by kernel_rfl
structure S102 where
 f0 : Int
 f1 : Int
def z102 : S102 := ⟨(0 : Int), (0 : Int)⟩
def k102 : Kd S102 := Kd.iso (Kd.pair (Kd.int .i64) (Kd.int .i64)) (fun x : S102 => (x.f0, x.f1))
theorem k102_open {w : World} {x : S102} {cs : List Value} (h : k102.K w x cs) : cs = [.int .i64 x.f0, .int .i64 x.f1] := by
 obtain ⟨_, _, rfl, rfl, rfl⟩ := h
 exact rfl
theorem k102_mkM (w : World) (base : Nat) (ok : Nat → Prop) (x : S102)  : k102.M w base ok x [.int .i64 x.f0, .int .i64 x.f1] := ⟨[.int .i64 x.f0], [.int .i64 x.f1], rfl, rfl, rfl⟩
def rd_T102 (xs : List S102) (i : Int) : S102 := xs.getD i.toNat z102
theorem at_T102 {w : World} {A : Option Addr} {n : Nat} {xs : List S102} (h : Kd.C k102 w A n xs) (i : Int) (h0 : 0 ≤ i) (h1 : i < n) : ∃ ad , A = some ad ∧ w.cell? (ad.add (i.toNat * 2)) = some (.int .i64 (rd_T102 xs i).f0) ∧ w.cell? ⟨(ad.add (i.toNat * 2)).block, (ad.add (i.toNat * 2)).off + 1, none⟩ = some (.int .i64 (rd_T102 xs i).f1) := by
 obtain ⟨ad, c, e, _, hK, hc0⟩ := Kd.C_get h z102 i h0 h1
 have hc : ∀ j u, c[j]? = some u → w.cell? (ad.add (i.toNat * 2 + j)) = some u := hc0
 obtain rfl := k102_open hK
 exact ⟨ad, e, hc 0 _ rfl, by rw [← add_field _ _ 1 (by omega)]; exact hc 1 _ rfl⟩
structure S62 where
 f0 : Int
 f1 : Int
 f2 : (List S102)
 f3 : Int
 f4 : (List Int)
 f5 : Int
def z62 : S62 := ⟨(0 : Int), (0 : Int), ([] : List S102), (0 : Int), ([] : List Int), (0 : Int)⟩
def k62 : Kd S62 := Kd.iso (Kd.pair (Kd.int .i64) (Kd.pair (Kd.int .i64) (Kd.pair (Kd.slice 102 k102) (Kd.pair (Kd.int .i64) (Kd.pair (Kd.slice 5 (Kd.int .u8)) (Kd.int .i64)))))) (fun x : S62 => (x.f0, x.f1, x.f2, x.f3, x.f4, x.f5))
theorem k62_open {w : World} {x : S62} {cs : List Value} (h : k62.K w x cs) : ∃ A2 c2 A4 c4, cs = [.int .i64 x.f0, .int .i64 x.f1, .slice A2 x.f2.length c2, .int .i64 x.f3, .slice A4 x.f4.length c4, .int .i64 x.f5] ∧ x.f2.length ≤ c2 ∧ k102.C w A2 x.f2.length x.f2 ∧ x.f4.length ≤ c4 ∧ (Kd.int .u8).C w A4 x.f4.length x.f4 := by
 lb10_
 exact ⟨A2, c2, A4, c4, rfl, l2, g2, l4, g4⟩
def rd_T62 (xs : List S62) (i : Int) : S62 := xs.getD i.toNat z62
theorem at_T62 {w : World} {A : Option Addr} {n : Nat} {xs : List S62} (h : Kd.C k62 w A n xs) (i : Int) (h0 : 0 ≤ i) (h1 : i < n) : ∃ ad A2 c2 A4 c4, A = some ad ∧ w.cell? (ad.add (i.toNat * 6)) = some (.int .i64 (rd_T62 xs i).f0) ∧ w.cell? ⟨(ad.add (i.toNat * 6)).block, (ad.add (i.toNat * 6)).off + 1, none⟩ = some (.int .i64 (rd_T62 xs i).f1) ∧ w.cell? ⟨(ad.add (i.toNat * 6)).block, (ad.add (i.toNat * 6)).off + 2, none⟩ = some (.slice A2 (rd_T62 xs i).f2.length c2) ∧ w.cell? ⟨(ad.add (i.toNat * 6)).block, (ad.add (i.toNat * 6)).off + 3, none⟩ = some (.int .i64 (rd_T62 xs i).f3) ∧ w.cell? ⟨(ad.add (i.toNat * 6)).block, (ad.add (i.toNat * 6)).off + 4, none⟩ = some (.slice A4 (rd_T62 xs i).f4.length c4) ∧ w.cell? ⟨(ad.add (i.toNat * 6)).block, (ad.add (i.toNat * 6)).off + 5, none⟩ = some (.int .i64 (rd_T62 xs i).f5) ∧ (rd_T62 xs i).f2.length ≤ c2 ∧ k102.C w A2 (rd_T62 xs i).f2.length (rd_T62 xs i).f2 ∧ (rd_T62 xs i).f4.length ≤ c4 ∧ (Kd.int .u8).C w A4 (rd_T62 xs i).f4.length (rd_T62 xs i).f4 := by
 obtain ⟨ad, c, e, _, hK, hc0⟩ := Kd.C_get h z62 i h0 h1
 have hc : ∀ j u, c[j]? = some u → w.cell? (ad.add (i.toNat * 6 + j)) = some u := hc0
 obtain ⟨A2, c2, A4, c4, rfl, l2, g2, l4, g4⟩ := k62_open hK
 lb11_
structure S103 where
 f0 : Int
 f1 : Int
def z103 : S103 := ⟨(0 : Int), (0 : Int)⟩
def k103 : Kd S103 := Kd.iso (Kd.pair (Kd.int .i64) (Kd.int .i64)) (fun x : S103 => (x.f0, x.f1))
theorem k103_open {w : World} {x : S103} {cs : List Value} (h : k103.K w x cs) : cs = [.int .i64 x.f0, .int .i64 x.f1] := by
 obtain ⟨_, _, rfl, rfl, rfl⟩ := h
 exact rfl
theorem k103_mkM (w : World) (base : Nat) (ok : Nat → Prop) (x : S103)  : k103.M w base ok x [.int .i64 x.f0, .int .i64 x.f1] := ⟨[.int .i64 x.f0], [.int .i64 x.f1], rfl, rfl, rfl⟩
def rd_T103 (xs : List S103) (i : Int) : S103 := xs.getD i.toNat z103
theorem at_T103 {w : World} {A : Option Addr} {n : Nat} {xs : List S103} (h : Kd.C k103 w A n xs) (i : Int) (h0 : 0 ≤ i) (h1 : i < n) : ∃ ad , A = some ad ∧ w.cell? (ad.add (i.toNat * 2)) = some (.int .i64 (rd_T103 xs i).f0) ∧ w.cell? ⟨(ad.add (i.toNat * 2)).block, (ad.add (i.toNat * 2)).off + 1, none⟩ = some (.int .i64 (rd_T103 xs i).f1) := by
 obtain ⟨ad, c, e, _, hK, hc0⟩ := Kd.C_get h z103 i h0 h1
 have hc : ∀ j u, c[j]? = some u → w.cell? (ad.add (i.toNat * 2 + j)) = some u := hc0
 obtain rfl := k103_open hK
 exact ⟨ad, e, hc 0 _ rfl, by rw [← add_field _ _ 1 (by omega)]; exact hc 1 _ rfl⟩
structure S58 where
 f0 : Int
 f1 : Int
 f2 : (List S103)
 f3 : Int
 f4 : (List Int)
 f5 : Int
def z58 : S58 := ⟨(0 : Int), (0 : Int), ([] : List S103), (0 : Int), ([] : List Int), (0 : Int)⟩
def k58 : Kd S58 := Kd.iso (Kd.pair (Kd.int .i64) (Kd.pair (Kd.int .i64) (Kd.pair (Kd.slice 103 k103) (Kd.pair (Kd.int .i64) (Kd.pair (Kd.slice 5 (Kd.int .u8)) (Kd.int .i64)))))) (fun x : S58 => (x.f0, x.f1, x.f2, x.f3, x.f4, x.f5))
theorem k58_open {w : World} {x : S58} {cs : List Value} (h : k58.K w x cs) : ∃ A2 c2 A4 c4, cs = [.int .i64 x.f0, .int .i64 x.f1, .slice A2 x.f2.length c2, .int .i64 x.f3, .slice A4 x.f4.length c4, .int .i64 x.f5] ∧ x.f2.length ≤ c2 ∧ k103.C w A2 x.f2.length x.f2 ∧ x.f4.length ≤ c4 ∧ (Kd.int .u8).C w A4 x.f4.length x.f4 := by
 lb10_
 exact ⟨A2, c2, A4, c4, rfl, l2, g2, l4, g4⟩
theorem k58_openM {w : World} {base : Nat} {ok : Nat → Prop} {x : S58} {cs : List Value} (h : k58.M w base ok x cs) : ∃ v2 v4, cs = [.int .i64 x.f0, .int .i64 x.f1, v2, .int .i64 x.f3, v4, .int .i64 x.f5] ∧ k103.R 103 w base ok v2 x.f2 ∧ (Kd.int .u8).R 5 w base ok v4 x.f4 := by
 obtain ⟨_, _, rfl, rfl, ⟨_, _, rfl, rfl, ⟨_, _, rfl, ⟨v2, rfl, g2⟩, ⟨_, _, rfl, rfl, ⟨_, _, rfl, ⟨v4, rfl, g4⟩, rfl⟩⟩⟩⟩⟩ := h
 exact ⟨v2, v4, rfl, g2, g4⟩
theorem k58_mk (w : World) (x : S58) {A2 : Option Addr} {c2 : Nat} (l2 : x.f2.length ≤ c2) (g2 : k103.C w A2 x.f2.length x.f2) {A4 : Option Addr} {c4 : Nat} (l4 : x.f4.length ≤ c4) (g4 : (Kd.int .u8).C w A4 x.f4.length x.f4) : k58.K w x [.int .i64 x.f0, .int .i64 x.f1, .slice A2 x.f2.length c2, .int .i64 x.f3, .slice A4 x.f4.length c4, .int .i64 x.f5] := ⟨[.int .i64 x.f0], [.int .i64 x.f1, .slice A2 x.f2.length c2, .int .i64 x.f3, .slice A4 x.f4.length c4, .int .i64 x.f5], rfl, rfl, ⟨[.int .i64 x.f1], [.slice A2 x.f2.length c2, .int .i64 x.f3, .slice A4 x.f4.length c4, .int .i64 x.f5], rfl, rfl, ⟨[.slice A2 x.f2.length c2], [.int .i64 x.f3, .slice A4 x.f4.length c4, .int .i64 x.f5], rfl, ⟨A2, c2, rfl, l2, g2⟩, ⟨[.int .i64 x.f3], [.slice A4 x.f4.length c4, .int .i64 x.f5], rfl, rfl, ⟨[.slice A4 x.f4.length c4], [.int .i64 x.f5], rfl, ⟨A4, c4, rfl, l4, g4⟩, rfl⟩⟩⟩⟩⟩
theorem k58_mkM (w : World) (base : Nat) (ok : Nat → Prop) (x : S58) {v2 : Value} (g2 : k103.R 103 w base ok v2 x.f2) {v4 : Value} (g4 : (Kd.int .u8).R 5 w base ok v4 x.f4) : k58.M w base ok x [.int .i64 x.f0, .int .i64 x.f1, v2, .int .i64 x.f3, v4, .int .i64 x.f5] := ⟨[.int .i64 x.f0], [.int .i64 x.f1, v2, .int .i64 x.f3, v4, .int .i64 x.f5], rfl, rfl, ⟨[.int .i64 x.f1], [v2, .int .i64 x.f3, v4, .int .i64 x.f5], rfl, rfl, ⟨[v2], [.int .i64 x.f3, v4, .int .i64 x.f5], rfl, ⟨v2, rfl, g2⟩, ⟨[.int .i64 x.f3], [v4, .int .i64 x.f5], rfl, rfl, ⟨[v4], [.int .i64 x.f5], rfl, ⟨v4, rfl, g4⟩, rfl⟩⟩⟩⟩⟩
theorem k58_mkF (W : World) (ok : Nat → Prop) (x : S58) {A2 : Option Addr} {c2 : Nat} (l2 : x.f2.length ≤ c2) (g2 : Kd.F k103 W ok A2 x.f2.length x.f2) {A4 : Option Addr} {c4 : Nat} (l4 : x.f4.length ≤ c4) (g4 : Kd.F (Kd.int .u8) W ok A4 x.f4.length x.f4) : Kd.FK k58 W ok x [.int .i64 x.f0, .int .i64 x.f1, .slice A2 x.f2.length c2, .int .i64 x.f3, .slice A4 x.f4.length c4, .int .i64 x.f5] := fun W2 hW => k58_mk W2 x l2 (g2 W2 hW) l4 (g4 W2 hW)
def rd_T58 (xs : List S58) (i : Int) : S58 := xs.getD i.toNat z58
theorem at_T58 {w : World} {A : Option Addr} {n : Nat} {xs : List S58} (h : Kd.C k58 w A n xs) (i : Int) (h0 : 0 ≤ i) (h1 : i < n) : ∃ ad A2 c2 A4 c4, A = some ad ∧ w.cell? (ad.add (i.toNat * 6)) = some (.int .i64 (rd_T58 xs i).f0) ∧ w.cell? ⟨(ad.add (i.toNat * 6)).block, (ad.add (i.toNat * 6)).off + 1, none⟩ = some (.int .i64 (rd_T58 xs i).f1) ∧ w.cell? ⟨(ad.add (i.toNat * 6)).block, (ad.add (i.toNat * 6)).off + 2, none⟩ = some (.slice A2 (rd_T58 xs i).f2.length c2) ∧ w.cell? ⟨(ad.add (i.toNat * 6)).block, (ad.add (i.toNat * 6)).off + 3, none⟩ = some (.int .i64 (rd_T58 xs i).f3) ∧ w.cell? ⟨(ad.add (i.toNat * 6)).block, (ad.add (i.toNat * 6)).off + 4, none⟩ = some (.slice A4 (rd_T58 xs i).f4.length c4) ∧ w.cell? ⟨(ad.add (i.toNat * 6)).block, (ad.add (i.toNat * 6)).off + 5, none⟩ = some (.int .i64 (rd_T58 xs i).f5) ∧ (rd_T58 xs i).f2.length ≤ c2 ∧ k103.C w A2 (rd_T58 xs i).f2.length (rd_T58 xs i).f2 ∧ (rd_T58 xs i).f4.length ≤ c4 ∧ (Kd.int .u8).C w A4 (rd_T58 xs i).f4.length (rd_T58 xs i).f4 := by
 obtain ⟨ad, c, e, _, hK, hc0⟩ := Kd.C_get h z58 i h0 h1
 have hc : ∀ j u, c[j]? = some u → w.cell? (ad.add (i.toNat * 6 + j)) = some u := hc0
 obtain ⟨A2, c2, A4, c4, rfl, l2, g2, l4, g4⟩ := k58_open hK
 lb11_
end Go.Proofs.YtbcleckapamicaaDoor.QFr
namespace Go.Proofs.YtbcleckapamicaaDoor.QFx
open Go.RowKit Go.Proofs.YtbcleckapamicaaDoorW.PrintWords Go.Proofs.YtbcleckapamicaaDoorW.PrintLast Go.Proofs.YtbcleckapamicaaDoorW.PrintMore
attribute [local go_sem] max2_int min2_int max_two min_two max_three min_three max_four min_four
set_option linter.unusedVariables false
set_option linter.unusedSimpArgs false
def errW : Option Int → Value
 | none => .nilIface
 | some c => .iface 0 (.int .i64 c)
theorem errW_none : errW none = .nilIface := rfl
theorem errW_some (c : Int) : errW (some c) = .iface 0 (.int .i64 c) := rfl
theorem info5 : (Tryd.prog.info? 5).map (fun i => (i.zero, i.size, i.bytes)) = some (some (.int .u8 0), 1, 1) := by kernel_rfl
end Go.Proofs.YtbcleckapamicaaDoor.QFx
namespace Go.Proofs.YtbcleckapamicaaDoor.QVa
open Go.RowKit Go.Proofs.YtbcleckapamicaaDoorW.PrintWords Go.Proofs.YtbcleckapamicaaDoorW.PrintLast Go.Proofs.YtbcleckapamicaaDoorW.PrintMore
attribute [local go_sem] max2_int min2_int max_two min_two max_three min_three max_four min_four
set_option linter.unusedVariables false
set_option linter.unusedSimpArgs false
def errW : Option Int → Value
 | none => .nilIface
 | some c => .iface 0 (.int .i64 c)
theorem errW_none : errW none = .nilIface := rfl
theorem errW_some (c : Int) : errW (some c) = .iface 0 (.int .i64 c) := rfl
theorem info5 : (Tryd.prog.info? 5).map (fun i => (i.zero, i.size, i.bytes)) = some (some (.int .u8 0), 1, 1) := by kernel_rfl
end Go.Proofs.YtbcleckapamicaaDoor.QVa
namespace Go.Proofs.YtbcleckapamicaaDoor.Vn
open Go.RowKit Go.Proofs.YtbcleckapamicaaDoorW.PrintWords
set_option linter.unusedVariables false
def vsize (n : Int) : Int := if n < 0 ∨ n > 4611686018427387903 then 0 else if n < 64 then 1 else if n < 16384 then 2 else if n < 1073741824 then 4 else 8
def Bytes (l : List Int) : Prop := ∀ x, x ∈ l → 0 ≤ x ∧ x ≤ 255
instance (l : List Int) : Decidable (Bytes l) := inferInstanceAs (Decidable (∀ x, x ∈ l → 0 ≤ x ∧ x ≤ 255))
def num (n : Int) (l : List Int) : Int := l.foldl (fun n c => 256 * n + c) n
def vread (l : List Int) : Int × Int × Int :=
  if l.length = 0 then (0, 0, 2) else
  if l.length < 2 ^ (rd l 0 / 64).toNat then (0, 0, 2) else
  if vsize (num (rd l 0 % 64) ((l.take (2 ^ (rd l 0 / 64).toNat)).drop 1)) = ((2 ^ (rd l 0 / 64).toNat : Nat) : Int) then (num (rd l 0 % 64) ((l.take (2 ^ (rd l 0 / 64).toNat)).drop 1), ((2 ^ (rd l 0 / 64).toNat : Nat) : Int), 0) else (0, 0, 3)
theorem num_snoc (n : Int) (l : List Int) (c : Int) : num n (l ++ [c]) = 256 * num n l + c := by simp [num]
theorem num_take (n : Int) (l : List Int) (k : Nat) (hk : k < l.length) : num n (l.take (k + 1)) = 256 * num n (l.take k) + rd l k := by
  rw [List.take_succ_eq_append_getElem hk, num_snoc]
  simp [rd, List.getD_eq_getElem?_getD, List.getElem?_eq_getElem hk]
theorem bytes_rd {l : List Int} (h : Bytes l) (i : Nat) (hi : i < l.length) : 0 ≤ rd l i ∧ rd l i ≤ 255 := by
  have : rd l i = l[i] := by simp [rd, List.getD_eq_getElem?_getD, List.getElem?_eq_getElem hi]
  rw [this]; exact h _ (List.getElem_mem hi)
theorem Bytes.take {l : List Int} (h : Bytes l) (n : Nat) : Bytes (l.take n) := fun x hx => h x (List.mem_of_mem_take hx)
theorem Bytes.drop {l : List Int} (h : Bytes l) (n : Nat) : Bytes (l.drop n) := fun x hx => h x (List.mem_of_mem_drop hx)
theorem Bytes.append {l m : List Int} (h : Bytes l) (h' : Bytes m) : Bytes (l ++ m) := fun x hx => (List.mem_append.1 hx).elim (h x) (h' x)
theorem num_range (n : Int) (h0 : 0 ≤ n) (h1 : n < 64) (l : List Int) (hb : Bytes l) : ∀ k : Nat, k ≤ l.length → 0 ≤ num n (l.take k) ∧ num n (l.take k) < 64 * 256 ^ k := by
  intro k
  induction k with
  | zero => intro _; simp [num]; omega
  | succ k ih =>
    intro hk
    obtain ⟨a, b⟩ := ih (by omega)
    obtain ⟨c, d⟩ := bytes_rd hb k (by omega)
    rw [num_take n l k (by omega), Int.pow_succ]
    constructor
    · omega
    · have : num n (l.take k) + 1 ≤ 64 * 256 ^ k := b
      have := Int.mul_le_mul_of_nonneg_left this (show (0 : Int) ≤ 256 by decide)
      rw [← Int.mul_assoc, Int.mul_comm 256 64, Int.mul_assoc] at this
      rw [Int.mul_comm (256 ^ k) 256]
      omega
theorem pow256 (k : Nat) (hk : k ≤ 6) : (256 : Int) ^ k ≤ 281474976710656 := by
  have : ∀ j : Fin 7, (256 : Int) ^ (j : Nat) ≤ 281474976710656 := by decide
  exact this ⟨k, by omega⟩
theorem pow256' (k : Nat) (hk : k ≤ 7) : (256 : Int) ^ k ≤ 72057594037927936 := by
  have : ∀ j : Fin 8, (256 : Int) ^ (j : Nat) ≤ 72057594037927936 := by decide
  exact this ⟨k, by omega⟩
theorem or_byte (v c : Int) (h0 : 0 ≤ v) (h1 : v < 72057594037927936) (hc : 0 ≤ c) (hc' : c ≤ 255) : bits BinOp.or IntKind.u64 (IntKind.u64.wrap (v * 256)) (IntKind.u64.wrap c) = 256 * v + c := by
  have e1 : IntKind.u64.wrap (v * 256) = v * 256 := by simp [IntKind.wrap, IntKind.bits, IntKind.signed]; omega
  have e2 : IntKind.u64.wrap c = c := by simp [IntKind.wrap, IntKind.bits, IntKind.signed]; omega
  rw [e1, e2, u64_or (v * 256) c (by omega) (by omega) hc (by omega)]
  have h := Nat.shiftLeft_add_eq_or_of_lt (i := 8) (b := c.toNat) (by omega) v.toNat
  rw [Nat.shiftLeft_eq] at h
  have e3 : (v * 256).toNat = v.toNat * 2 ^ 8 := by omega
  rw [e3, ← h]
  omega
theorem and63 (b : Int) (h0 : 0 ≤ b) (h1 : b ≤ 255) : bits BinOp.and IntKind.u8 b 63 = b % 64 := by
  have : ∀ j : Fin 256, bits BinOp.and IntKind.u8 ((j : Nat) : Int) 63 = ((j : Nat) : Int) % 64 := by decide +kernel
  have h := this ⟨b.toNat, by omega⟩
  simp only [] at h
  rwa [Int.toNat_of_nonneg h0] at h
end Go.Proofs.YtbcleckapamicaaDoor.Vn
namespace Go.Proofs.YtbcleckapamicaaDoor.Vn
open Go.RowKit Go.Proofs.YtbcleckapamicaaDoorW.PrintWords
set_option linter.unusedVariables false
set_option linter.unusedSimpArgs false
def vbytes (n : Int) : List Int :=
  if n < 0 ∨ n > 4611686018427387903 then [] else
  if n < 64 then [n] else
  if n < 16384 then [n / 256 + 64, n % 256] else
  if n < 1073741824 then [n / 16777216 + 128, n / 65536 % 256, n / 256 % 256, n % 256] else
  [n / 72057594037927936 + 192, n / 281474976710656 % 256, n / 1099511627776 % 256, n / 4294967296 % 256, n / 16777216 % 256, n / 65536 % 256, n / 256 % 256, n % 256]
theorem vsize_cases (n : Int) : (n < 0 ∨ n > 4611686018427387903) ∧ vsize n = 0 ∧ vbytes n = [] ∨ (0 ≤ n ∧ n < 64) ∧ vsize n = 1 ∧ vbytes n = [n] ∨ (64 ≤ n ∧ n < 16384) ∧ vsize n = 2 ∧ vbytes n = [n / 256 + 64, n % 256] ∨
    (16384 ≤ n ∧ n < 1073741824) ∧ vsize n = 4 ∧ vbytes n = [n / 16777216 + 128, n / 65536 % 256, n / 256 % 256, n % 256] ∨
    (1073741824 ≤ n ∧ n < 4611686018427387904) ∧ vsize n = 8 ∧ vbytes n = [n / 72057594037927936 + 192, n / 281474976710656 % 256, n / 1099511627776 % 256, n / 4294967296 % 256, n / 16777216 % 256, n / 65536 % 256, n / 256 % 256, n % 256] := by
  unfold vsize vbytes
  by_cases h1 : n < 0 ∨ n > 4611686018427387903
  · left; simp only [if_pos h1]; exact ⟨h1, trivial, trivial⟩
  by_cases h2 : n < 64
  · right; left; simp only [if_neg h1, if_pos h2]; exact ⟨⟨by omega, h2⟩, trivial, trivial⟩
  by_cases h3 : n < 16384
  · right; right; left; simp only [if_neg h1, if_neg h2, if_pos h3]; exact ⟨⟨by omega, h3⟩, trivial, trivial⟩
  by_cases h4 : n < 1073741824
  · right; right; right; left; simp only [if_neg h1, if_neg h2, if_neg h3, if_pos h4]; exact ⟨⟨by omega, h4⟩, trivial, trivial⟩
  · right; right; right; right; simp only [if_neg h1, if_neg h2, if_neg h3, if_neg h4]; exact ⟨⟨by omega, by omega⟩, trivial, trivial⟩
theorem vbytes_le (n : Int) : (vbytes n).length ≤ 8 := by
  rcases vsize_cases n with ⟨_, h, e⟩ | ⟨_, h, e⟩ | ⟨_, h, e⟩ | ⟨_, h, e⟩ | ⟨_, h, e⟩ <;> rw [e] <;> simp
end Go.Proofs.YtbcleckapamicaaDoor.Vn
namespace Go.Proofs.YtbcleckapamicaaDoor.Gv
open Go.RowKit Go.Proofs.YtbcleckapamicaaDoorW.PrintWords Go.Proofs.YtbcleckapamicaaDoorW.PrintLast Go.Proofs.YtbcleckapamicaaDoorW.PrintMore
set_option linter.unusedVariables false
set_option linter.unusedSimpArgs false
def tab64 : List Int := [0, 1, 56, 2, 57, 49, 28, 3, 61, 58, 42, 50, 38, 29, 17, 4, 62, 47, 59, 36, 45, 43, 51, 22, 53, 39, 33, 30, 24, 18, 12, 5, 63, 55, 48, 27, 60, 41, 37, 16, 46, 35, 44, 21, 52, 32, 23, 11, 54, 26, 40, 15, 34, 20, 31, 10, 25, 14, 19, 9, 13, 8, 7, 6]
structure TB (w : World) : Prop where
  out : ∀ i, i < 64 → w.cell? ⟨1, i, none⟩ = some (.int .u8 (tab64.getD i 0))
theorem TB.below {w W : World} (h : TB w) (hb : Below w.heap.size w W) : TB W := ⟨fun i hi => pw_cell_below hb (h.out i hi)⟩
theorem TB.alloc {w : World} (h : TB w) (o : Obj) : TB (w.alloc o) := h.below (below_alloc (Below.refl _ _) o)
theorem TB.drew {w : World} (h : TB w) : TB w.drew := h.below (below_drew (Below.refl _ _))
theorem TB.drewN {w : World} (h : TB w) (n : Nat) : TB (w.drewN n) := h.below (pw_below_drewN (Below.refl _ _) n)
def bits_TrailingZeros.f (a0 : Int) : Option Int := if a0 = 1 then some 0 else if a0 = 2 then some 1 else if a0 = 4 then some 2 else if a0 = 8 then some 3 else none
theorem tz64 (a0 r : Int) (w : World) (ht : TB w) (h : bits_TrailingZeros.f a0 = some r) : Calls Tryd.prog 86 #[.int .u64 a0] w fun e w' => e = .returned (.int .i64 r) ∧ Drawn0 w w' := by
  have h0 := ht.out 0 (by decide)
  have h1 := ht.out 1 (by decide)
  have h3 := ht.out 3 (by decide)
  have h7 := ht.out 7 (by decide)
  simp only [tab64, List.getD_cons_zero, List.getD_cons_succ] at h0 h1 h3 h7
  clear ht
  unfold bits_TrailingZeros.f at h
  split at h
  · rename_i e; subst e
    obtain rfl := Option.some.inj h
    clear h h1 h3 h7
    have e1 : bits BinOp.and IntKind.u64 1 (IntKind.u64.wrap (-1)) = 1 := by decide +kernel
    have e2 : IntKind.u64.wrap 285870213051353865 = 285870213051353865 := by decide +kernel
    go_enter Tryd.func86, Tryd.ntmps86
    go_wp2
    go_ret
    exact ⟨rfl, Drawn0.refl _⟩
  split at h
  · rename_i e; subst e
    obtain rfl := Option.some.inj h
    clear h h0 h3 h7
    have e1 : bits BinOp.and IntKind.u64 2 (IntKind.u64.wrap (-2)) = 2 := by decide +kernel
    have e2 : IntKind.u64.wrap 571740426102707730 = 571740426102707730 := by decide +kernel
    go_enter Tryd.func86, Tryd.ntmps86
    go_wp2
    go_ret
    exact ⟨rfl, Drawn0.refl _⟩
  split at h
  · rename_i e; subst e
    obtain rfl := Option.some.inj h
    clear h h0 h1 h7
    have e1 : bits BinOp.and IntKind.u64 4 (IntKind.u64.wrap (-4)) = 4 := by decide +kernel
    have e2 : IntKind.u64.wrap 1143480852205415460 = 1143480852205415460 := by decide +kernel
    go_enter Tryd.func86, Tryd.ntmps86
    go_wp2
    go_ret
    exact ⟨rfl, Drawn0.refl _⟩
  split at h
  · rename_i e; subst e
    obtain rfl := Option.some.inj h
    clear h h0 h1 h3
    have e1 : bits BinOp.and IntKind.u64 8 (IntKind.u64.wrap (-8)) = 8 := by decide +kernel
    have e2 : IntKind.u64.wrap 2286961704410830920 = 2286961704410830920 := by decide +kernel
    go_enter Tryd.func86, Tryd.ntmps86
    go_wp2
    go_ret
    exact ⟨rfl, Drawn0.refl _⟩
  · cases h
theorem bits_TrailingZeros.calls (a0 r : Int) (w : World) (ht : TB w) (h : bits_TrailingZeros.f a0 = some r) : Calls Tryd.prog 58 #[.int .u64 a0] w fun e w' => e = .returned (.int .i64 r) ∧ Drawn0 w w' := by
  have H := tz64 a0 r w ht h
  clear ht h
  go_enter Tryd.func58, Tryd.ntmps58
  go_wp2_with (go_at_call 86; refine H.mono ?_; rintro e w' ⟨rfl, ⟨n, rfl⟩⟩)
  go_ret
  exact ⟨rfl, ⟨⟨_, rfl⟩⟩⟩
theorem info5 : (Tryd.prog.info? 5).map (fun i => (i.zero, i.size, i.bytes)) = some (some (.int .u8 0), 1, 1) := by kernel_rfl
def slices_Clone_byte_byte.f (l0 : List Int) : Option (List Int) := if l0.length ≤ 140737488355328 then some l0 else none
set_option maxHeartbeats 1000000 in
theorem slices_Clone_byte_byte.calls (A0 : Option Addr) (c0 : Nat) (l0 : List Int) (r : List Int) (w : World) (hr0 : Kd.C (Kd.int .u8) w A0 l0.length l0) (hc0 : l0.length ≤ c0) (h : slices_Clone_byte_byte.f l0 = some r) :
    Calls Tryd.prog 57 #[.slice A0 l0.length c0] w fun e w' => ∃ v0_ : Value, e = .returned (v0_) ∧ Kd.R (Kd.int .u8) 5 w' w.heap.size (fun _ => True) v0_ r ∧ Below w.heap.size w w' := by
  unfold slices_Clone_byte_byte.f at h
  by_cases hl : l0.length ≤ 140737488355328
  · rw [if_pos hl] at h
    obtain rfl := Option.some.inj h
    clear h
    have q : ∀ (w : World) (a : Option Addr) (n c n' c' : Nat), (binOp .eql 22 (.slice a n c) (.slice none n' c')).run Tryd.prog w = .ok (.bool a.isNone) w := fun w a n c n' c' => Lib.run_eql_slice_nil w _ _ a n c n' c' Tryd.underlying22
    have HR0 := Aside0.mk hr0
    clear hr0
    have HB := Aside0.mk (Below.refl w.heap.size w)
    rcases A0 with _ | ad
    · have e0 : l0 = [] := by
        rcases Nat.eq_zero_or_pos l0.length with h0 | h0
        · exact List.eq_nil_of_length_eq_zero h0
        · obtain ⟨ad, h1, _⟩ := HR0.out.2.2 h0
          cases h1
      subst e0
      clear HR0
      go_enter Tryd.func57, Tryd.ntmps57
      go_wp2
      go_ret
      exact ⟨_, rfl, Kd.R_nil _ _ _ _ _, HB.out⟩
    · have HO := Aside0.mk (Kd.R_of_own (h1 := fun _ => rfl) (enc := Value.int .u8) (xs := []) (ok := fun _ => True) (own_lit w w.heap.size 5 .u8 [] (Nat.le_refl _) (by simp)) (fun _ _ => trivial))
      go_enter Tryd.func57, Tryd.ntmps57
      go_wp2_with ((with_reducible refine gate_builtin (b := .append) (xs := #[.tmp 5, .tmp 6]) rfl ?_); at_builtin; refine Kd.R_append_rows (Kd.int .u8) (w0 := w) w.heap.size rfl (.tmp 5) (.tmp 6) 22 5 (.int .u8 0) 1 rfl Tryd.underlying22 info5 rfl (by decide) (by omega) _ [] l0 _ _ _ (fun _ => True) (fun _ => False) rfl rfl ?aO ?aR (fun _ _ h => h) (fun _ h => h.elim) ?aF ?aB ?aS ?aL ?_; (case aO => exact HO.out); (case aR => exact Kd.C_alloc HR0.out _); (case aB => exact below_alloc HB.out _); (case aF => exact (fun _ _ => trivial)); (case aS => simp); (case aL => simpa using hl); intro v w5 ho hb hg hat)
      go_ret
      exact ⟨_, rfl, by simpa using ho, hb⟩
  · rw [if_neg hl] at h; cases h
end Go.Proofs.YtbcleckapamicaaDoor.Gv
namespace Go.Proofs.YtbcleckapamicaaDoor.Gv
open Go.RowKit Go.Proofs.YtbcleckapamicaaDoorW.PrintWords Go.Proofs.YtbcleckapamicaaDoorW.PrintLast Go.Proofs.YtbcleckapamicaaDoorW.PrintMore Go.Proofs.YtbcleckapamicaaDoor.Vn
set_option linter.unusedVariables false
set_option linter.unusedSimpArgs false
theorem size_calls (n : Int) (w : World) : Calls Tryd.prog 24 #[.int .i64 n] w fun e w' => e = .returned (.int .i64 (vsize n)) ∧ Drawn0 w w' := by
  by_cases h1 : n < 0
  · have e : vsize n = 0 := by simp [vsize, h1]
    rw [e]; clear e
    go_enter Tryd.func24, Tryd.ntmps24
    go_wp2
    go_ret
    exact ⟨rfl, Drawn0.refl _⟩
  by_cases h2 : 4611686018427387903 < n
  · have e : vsize n = 0 := by simp [vsize, h2]
    rw [e]; clear e
    go_enter Tryd.func24, Tryd.ntmps24
    go_wp2
    go_ret
    exact ⟨rfl, Drawn0.refl _⟩
  have e0 : vsize n = if n < 64 then 1 else if n < 16384 then 2 else if n < 1073741824 then 4 else 8 := by unfold vsize; rw [if_neg (by omega)]
  by_cases h3 : n < 64
  · rw [if_pos h3] at e0; rw [e0]; clear e0
    go_enter Tryd.func24, Tryd.ntmps24
    go_wp2
    go_ret
    exact ⟨rfl, Drawn0.refl _⟩
  rw [if_neg h3] at e0
  by_cases h4 : n < 16384
  · rw [if_pos h4] at e0; rw [e0]; clear e0
    go_enter Tryd.func24, Tryd.ntmps24
    go_wp2
    go_ret
    exact ⟨rfl, Drawn0.refl _⟩
  rw [if_neg h4] at e0
  by_cases h5 : n < 1073741824
  · rw [if_pos h5] at e0; rw [e0]; clear e0
    go_enter Tryd.func24, Tryd.ntmps24
    go_wp2
    go_ret
    exact ⟨rfl, Drawn0.refl _⟩
  · rw [if_neg h5] at e0; rw [e0]; clear e0
    go_enter Tryd.func24, Tryd.ntmps24
    go_wp2
    go_ret
    exact ⟨rfl, Drawn0.refl _⟩
def varint_Size.f (a0 : Int) : Option Int := some (vsize a0)
theorem varint_Size.calls (a0 r : Int) (w : World) (h : varint_Size.f a0 = some r) : Calls Tryd.prog 24 #[.int .i64 a0] w fun e w' => e = .returned (.int .i64 r) ∧ Drawn0 w w' := by
  obtain rfl : vsize a0 = r := Option.some.inj h
  exact size_calls a0 w
def varint_Read.f (l0 : List Int) : Option (Int × Int × Int) := if Bytes l0 then some (vread l0) else none
theorem read_at (q : Nat) (hq : q < 4) (A0 : Option Addr) (c0 : Nat) (l0 : List Int) (w : World) (hr0 : Kd.C (Kd.int .u8) w A0 l0.length l0) (hc0 : l0.length ≤ c0) (hB : Bytes l0) (hpos : 0 < l0.length) (hqq : rd l0 0 / 64 = (q : Int))
    (hlen : 2 ^ q ≤ l0.length) : Calls Tryd.prog 27 #[.slice A0 l0.length c0] w fun e w' => e = .returned (.tuple #[.int .i64 (vread l0).1, .int .i64 (vread l0).2.1, .int .i64 (vread l0).2.2]) ∧ Drawn0 w w' := by
  obtain ⟨sz, hsz⟩ : ∃ sz : Nat, sz = 2 ^ q := ⟨_, rfl⟩
  have hsz8 : 1 ≤ sz ∧ sz ≤ 8 := by
    have : ∀ j : Fin 4, 1 ≤ 2 ^ (j : Nat) ∧ 2 ^ (j : Nat) ≤ 8 := by decide
    rw [hsz]; exact this ⟨q, hq⟩
  obtain ⟨t, ht⟩ : ∃ t, t = (l0.take sz).drop 1 := ⟨_, rfl⟩
  have htl : t.length = sz - 1 := by rw [ht, List.length_drop, List.length_take]; omega
  have hBt : Bytes t := by rw [ht]; exact (hB.take _).drop _
  have hb0 : 0 ≤ rd l0 0 ∧ rd l0 0 ≤ 255 := bytes_rd hB 0 hpos
  have hv : vread l0 = if vsize (num (rd l0 0 % 64) t) = (sz : Int) then (num (rd l0 0 % 64) t, (sz : Int), 0) else (0, 0, 3) := by
    unfold vread
    rw [if_neg (by omega), hqq, Int.toNat_natCast, ← hsz, if_neg (by omega), ← ht]
  have hszl : sz ≤ l0.length := by rw [hsz]; exact hlen
  have hsh : wrap64 (2 ^ q) = (sz : Int) := by
    rw [hsz]
    have : ∀ j : Fin 4, wrap64 (2 ^ (j : Nat)) = ((2 ^ (j : Nat) : Nat) : Int) := by decide +kernel
    exact this ⟨q, hq⟩
  obtain ⟨b0, hb⟩ : ∃ b0, b0 = rd l0 0 := ⟨_, rfl⟩
  obtain ⟨ad, rfl, hcell⟩ := Kd.at_int hr0 0 (by omega) (by omega)
  have hm := hr0.2.1
  obtain ⟨i0, hi, hz0, hz1, hz2⟩ := info_parts info5
  obtain ⟨A', hcut, hct, _⟩ := print_mid_of (P := Tryd.prog) (Value.int .u8) (0 : Int) 22 5 .i64 .i64 Tryd.underlying22 hi hz1 (some ad) c0 l0 1 (sz : Int) (by omega) (by omega) (by omega) hc0
  have HT := Aside0.mk (Kd.C_of_reads (h1 := fun _ => rfl) (hct w (Kd.reads_of_C hr0)))
  rw [show (1 : Int).toNat = 1 from rfl, Int.toNat_natCast, ← ht] at HT hcut
  rw [← hb] at hqq hcell hb0 hv
  clear hct hr0 hi hz0 hz1 hz2 hb
  have hand := and63 b0 hb0.1 hb0.2
  have hm6 : 0 ≤ b0 % 64 ∧ b0 % 64 < 64 := by omega
  obtain ⟨n0, hn0⟩ : ∃ n0, n0 = b0 % 64 := ⟨_, rfl⟩
  rw [← hn0] at hand hm6 hv
  clear hn0
  have hls : decide (l0.length < sz) = false := decide_eq_false (by omega)
  have hlz : (l0.length == 0) = false := beq_eq_false_iff_ne.2 (by omega)
  have hN := num_range n0 hm6.1 hm6.2 t hBt
  have hcells : ∀ k : Nat, k < t.length → ∃ a', A' = some a' ∧ w.cell? (a'.add k) = some (.int .u8 (rd t k)) := by
    intro k hk
    obtain ⟨a', e, h⟩ := Kd.at_int HT.out (k : Int) (by omega) (by omega)
    exact ⟨a', e, by rwa [Int.toNat_natCast] at h⟩
  have hl7 : t.length ≤ 7 := by omega
  have HV := Aside0.mk hv
  have HL := Aside0.mk htl
  have HB := Aside0.mk hBt
  have HN := Aside0.mk hN
  have HC := Aside0.mk hcells
  have HQ := Aside0.mk ht
  have HS := Aside0.mk hsh
  clear hv htl hBt hsz ht hB hN hcells HT hsz8
  rw [show (ad.add (0 : Int).toNat) = ad from rfl] at hcell
  have hun : IntKind.u64.wrap n0 = n0 := by simp [IntKind.wrap, IntKind.bits, IntKind.signed]; omega
  go_enter Tryd.func27, Tryd.ntmps27
  go_wp2
  clear hls hlz hun hand hqq hcell hcut
  go_loopg [5, 29] t.length (fun gg v5 v29 wr => ∃ kk : Nat, kk ≤ t.length ∧ t.length - kk ≤ gg ∧ v5 = .int .u64 (num n0 (t.take kk)) ∧ v29 = .int .i64 kk ∧ wr = w)
  case atStart => exact ⟨0, Nat.zero_le _, by omega, rfl, rfl, rfl⟩
  case round =>
    obtain ⟨kk, hkk, hg, rfl, rfl, rfl⟩ := hrel
    have hr := HN.out kk hkk
    by_cases hlt : kk < t.length
    · have hltz : (kk : Int) < (t.length : Int) := by omega
      obtain ⟨a', rfl, hc⟩ := HC.out kk hlt
      have hcb := bytes_rd HB.out kk hlt
      have hor := or_byte (num n0 (t.take kk)) (rd t kk) hr.1 (by have := pow256 kk (by omega); omega) hcb.1 hcb.2
      have hnt := num_take n0 t kk hlt
      rw [← hnt, show IntKind.u64.wrap (rd t kk) = rd t kk from by simp [IntKind.wrap, IntKind.bits, IntKind.signed]; omega] at hor
      generalize rd t kk = c at *
      have HNT := Aside0.mk hnt
      clear hnt
      go_wp2
      go_roundg (t.length - (kk + 1))
      case measure => omega
      case rel => exact ⟨kk + 1, by omega, by omega, rfl, by go_num, rfl⟩
    · have hltz : ¬ (kk : Int) < (t.length : Int) := by omega
      have hkl : kk = t.length := by omega
      rw [hkl, List.take_of_length_le (Nat.le_refl _)] at hr
      have hrange : num n0 t < 4611686018427387904 := by have := pow256' t.length (by omega); omega
      have hun : num n0 (t.take kk) = num n0 t := by rw [hkl, List.take_of_length_le (Nat.le_refl _)]
      rw [hun]
      have hw : wrap64 (num n0 t) = num n0 t := by unfold wrap64; omega
      have hcall := size_calls (num n0 t) wr
      clear hun hkl HN hl7
      generalize num n0 t = v at *
      by_cases he : vsize v = (sz : Int)
      · have hv := HV.out
        rw [if_pos he] at hv
        have b1 : (vsize v != wrap64 (2 ^ q)) = false := by rw [HS.out, he]; simp
        have HE := Aside0.mk he
        have HV2 := Aside0.mk hv
        clear he hv HV
        go_wp2_with (go_at_call 24; refine hcall.mono ?_; rintro e w' ⟨rfl, ⟨n, rfl⟩⟩)
        go_ret3
        exact ⟨by rw [HV2.out, ← HS.out]; rfl, ⟨⟨_, rfl⟩⟩⟩
      · have hv := HV.out
        rw [if_neg he] at hv
        have b1 : (vsize v != wrap64 (2 ^ q)) = true := by rw [HS.out]; simpa using he
        have HV2 := Aside0.mk hv
        clear he hv HV
        go_wp2_with (go_at_call 24; refine hcall.mono ?_; rintro e w' ⟨rfl, ⟨n, rfl⟩⟩)
        go_ret3
        exact ⟨by rw [HV2.out]; rfl, ⟨⟨_, rfl⟩⟩⟩
theorem varint_Read.calls (A0 : Option Addr) (c0 : Nat) (l0 : List Int) (r1 r2 r3 : Int) (w : World) (hr0 : Kd.C (Kd.int .u8) w A0 l0.length l0) (hc0 : l0.length ≤ c0) (h : varint_Read.f l0 = some (r1, r2, r3)) :
    Calls Tryd.prog 27 #[.slice A0 l0.length c0] w fun e w' => e = .returned (.tuple #[.int .i64 r1, .int .i64 r2, .int .i64 r3]) ∧ Drawn0 w w' := by
  unfold varint_Read.f at h
  by_cases hB : Bytes l0
  · rw [if_pos hB] at h
    have h' := Option.some.inj h
    obtain ⟨e1, e2, e3⟩ : r1 = (vread l0).1 ∧ r2 = (vread l0).2.1 ∧ r3 = (vread l0).2.2 := by rw [h']; exact ⟨rfl, rfl, rfl⟩
    subst e1 e2 e3
    clear h h'
    by_cases h0 : l0.length = 0
    · have hv : vread l0 = (0, 0, 2) := by unfold vread; rw [if_pos h0]
      rw [hv]
      have h1 : (l0.length == 0) = true := by simpa using h0
      clear hv h0 hr0 hB hc0
      go_enter Tryd.func27, Tryd.ntmps27
      go_wp2
      go_ret3
      exact ⟨rfl, Drawn0.refl _⟩
    · have hb0 : 0 ≤ rd l0 0 ∧ rd l0 0 ≤ 255 := bytes_rd hB 0 (by omega)
      obtain ⟨q, hq⟩ : ∃ q : Nat, rd l0 0 / 64 = (q : Int) := ⟨(rd l0 0 / 64).toNat, by omega⟩
      have hq4 : q < 4 := by omega
      by_cases hl : 2 ^ q ≤ l0.length
      · exact read_at q hq4 A0 c0 l0 w hr0 hc0 hB (by omega) hq hl
      · have hv : vread l0 = (0, 0, 2) := by unfold vread; rw [if_neg h0, hq, Int.toNat_natCast, if_pos (by omega)]
        rw [hv]
        obtain ⟨ad, rfl, hcell⟩ := Kd.at_int hr0 0 (by omega) (by omega)
        rw [show (ad.add (0 : Int).toNat) = ad from rfl] at hcell
        generalize rd l0 0 = b0 at *
        have hsh : wrap64 (2 ^ q) = ((2 ^ q : Nat) : Int) := by
          have : ∀ j : Fin 4, wrap64 (2 ^ (j : Nat)) = ((2 ^ (j : Nat) : Nat) : Int) := by decide +kernel
          exact this ⟨q, hq4⟩
        have hls : decide ((l0.length : Int) < wrap64 (2 ^ q)) = true := decide_eq_true (by rw [hsh]; omega)
        have hm := hr0.2.1
        have hpos : 0 < l0.length := by omega
        have hlz : (l0.length == 0) = false := beq_eq_false_iff_ne.2 h0
        clear hsh hv hl h0 hr0 hB hb0
        go_enter Tryd.func27, Tryd.ntmps27
        go_wp2
        go_ret3
        exact ⟨rfl, Drawn0.refl _⟩
  · rw [if_neg hB] at h; cases h
end Go.Proofs.YtbcleckapamicaaDoor.Gv
namespace Go.Proofs.YtbcleckapamicaaDoor.QVa
open Go.RowKit Go.Proofs.YtbcleckapamicaaDoorW.PrintWords Go.Proofs.YtbcleckapamicaaDoorW.PrintLast Go.Proofs.YtbcleckapamicaaDoorW.PrintMore
attribute [local go_sem] max2_int min2_int max_two min_two max_three min_three max_four min_four
set_option linter.unusedVariables false
set_option linter.unusedSimpArgs false
open Go.Proofs.YtbcleckapamicaaDoor.Gv (TB TB.below TB.alloc TB.drew TB.drewN bits_TrailingZeros.f bits_TrailingZeros.calls slices_Clone_byte_byte.f slices_Clone_byte_byte.calls varint_Size.f varint_Size.calls)
set_option hygiene false
local macro "pe40_" : term => `((if t104 = 0 then (some t101) else ((bits_TrailingZeros.f (IntKind.u64.wrap (t104))).bind fun t105 => (if 0 ≤ (wrap64 ((wrap64 (8 * t104)) - 2)) then (varint_Append.l0 k t101 (Go.bits .or .u64 (IntKind.u64.wrap (a1)) (shl .u64 (IntKind.u64.wrap (t105)) (wrap64 ((wrap64 (8 * t104)) - 2)))) (wrap64 (t104 - 1))) else (none)))))
local macro "pe41_" : term => `((by (try simp only [List.map_toArray, List.map_cons, List.map_nil]); first | done | rfl | (simp only [List.length_drop, List.length_take]; rfl)))
local macro "le40_" : tactic => `(tactic| (exact ⟨by first | rfl | (simp; done) | (simp [*]; done), by repeat (first | exact Drawn0.refl _ | apply Drawn0.step)⟩))
set_option hygiene true
def varint_Append.l0 : Nat → List Int → Int → Int → Option (List Int)
 | 0, _, _, _ => none
 | k + 1, x5, x8, x9 => if x9 ≥ 0 then (if 0 ≤ (wrap64 (8 * x9)) then (if x5.length < 140737488355328 then (varint_Append.l0 k (x5 ++ [(shr .u64 x8 (wrap64 (8 * x9))) % 256]) x8 (wrap64 (x9 - 1))) else (none)) else (none)) else (some x5)
def varint_Append.f (k : Nat) (l0 : List Int) (a1 : Int) : Option (List Int) := (slices_Clone_byte_byte.f l0).bind fun t101 => ((varint_Size.f a1).bind fun t104 => (pe40_))
theorem varint_Append.mono_l : ∀ k, (∀ y0 y1 y2, LeO (varint_Append.l0 k y0 y1 y2) (varint_Append.l0 (k + 1) y0 y1 y2))
 | 0 => fun _ _ _ r h => by simp [varint_Append.l0] at h
 | k + 1 => by
  have ih0 := varint_Append.mono_l k
  ·intro y0 y1 y2
   unfold varint_Append.l0
   repeat' first
   | (with_reducible exact ih0 _ _ _)
   | (with_reducible exact LeO.refl _)
   | (with_reducible exact LeO.none _)
   | (with_reducible refine LeO.ite ?_ ?_)
   | (with_reducible refine LeO.bind ?_ (fun _ => ?_))
   | exact ih0 _ _ _
   | exact LeO.none _
   | refine LeO.ite ?_ ?_
   | refine LeO.bind ?_ (fun _ => ?_)
theorem varint_Append.mono : ∀ a0 a1 k, LeO (varint_Append.f k a0 a1) (varint_Append.f (k + 1) a0 a1) := by
 intro a0 a1 k
 have ih0 := varint_Append.mono_l k
 unfold varint_Append.f
 repeat' first
   | (with_reducible exact ih0 _ _ _)
   | (with_reducible exact LeO.refl _)
   | (with_reducible exact LeO.none _)
   | (with_reducible refine LeO.ite ?_ ?_)
   | (with_reducible refine LeO.bind ?_ (fun _ => ?_))
   | exact ih0 _ _ _
   | exact LeO.none _
   | refine LeO.ite ?_ ?_
   | refine LeO.bind ?_ (fun _ => ?_)
set_option maxHeartbeats 8000000 in
set_option maxRecDepth 100000 in
theorem varint_Append.calls (k : Nat) (A0 : Option Addr) (c0 : Nat) (l0 : List Int) (a1 : Int) (r : List Int) (w : World) (hr0 : Kd.C (Kd.int .u8) w A0 l0.length l0) (hc0 : l0.length ≤ c0) (ht : TB w) (h : varint_Append.f k l0 a1 = some r) :
  Calls Tryd.prog 21 #[.slice A0 l0.length c0, .int .i64 a1] w fun e w' => ∃ v0_ : Value, e = .returned (v0_) ∧ Kd.R (Kd.int .u8) 5 w' w.heap.size (fun _ => True) v0_ r ∧ Below w.heap.size w w' := by
 have HT := Aside0.mk ht
 clear ht
 have HR0 := Aside0.mk hr0
 have HC0 := Aside0.mk hc0
 clear hr0 hc0
 have HB := Aside0.mk (Below.refl w.heap.size w)
 have H : ((slices_Clone_byte_byte.f l0).bind fun t101 => ((varint_Size.f a1).bind fun t104 => (pe40_))) = some r := h
 clear h
 replace H := Option.bind_eq_some_iff.mp H
 obtain ⟨t101, A30, H⟩ := H
 replace H : ((varint_Size.f a1).bind fun t104 => (pe40_)) = some r := H
 have A3 := Aside0.mk A30
 clear A30
 replace H := Option.bind_eq_some_iff.mp H
 obtain ⟨t104, A40, H⟩ := H
 replace H : (pe40_) = some r := H
 have A4 := Aside0.mk A40
 clear A40
 by_cases c5 : t104 = 0
 ·rw [if_pos c5] at H
  have c5b0 : (t104 == 0) = true := beq_iff_eq.mpr c5
  have c5b1 : (t104 != 0) = false := bne_eq_false_iff_eq.mpr c5
  clear c5
  obtain rfl := Option.some.inj H
  go_enter Tryd.func21, Tryd.ntmps21
  go_wp2_with (first | ((with_reducible refine gate_callee (f := 57) rfl ?_); refine goesL_ (some 11) rfl rfl Tryd.func57 (by kernel_rfl) rfl #[.slice A0 l0.length c0] rfl (pe41_) ?_; (with_reducible refine (slices_Clone_byte_byte.calls _ _ l0 t101 _ ?side1 ?side2 A3.out).mono ?_); (case side1 => repeat (first | exact HR0.out | (with_reducible refine Kd.C_alloc ?_ _) | (with_reducible refine Kd.C_drewN ?_ _) | (with_reducible refine Kd.C_drew ?_))); (case side2 => exact HC0.out); rintro e w6 ⟨v102, rfl, ho0, hb⟩; refine ⟨_, rfl, ?_⟩; have n0_ := Aside0.mk (Kd.R_lower ho0 (below_size (by qc0_))); have n1_ := Aside0.mk (below_step (by qc0_) hb); clear HB; have HO103 := n0_; have HB := n1_; clear n0_ n1_; (try clear hb); (try clear hb2); (try clear hk); (try clear hi); (try clear ho0)) | ((with_reducible refine gate_callee (f := 24) rfl ?_); refine goesL_ (some 13) rfl rfl Tryd.func24 (by kernel_rfl) rfl #[.int .i64 a1] rfl (pe41_) ?_; (with_reducible refine (varint_Size.calls a1 t104 _ A4.out).mono ?_); rintro e w' ⟨rfl, ⟨nd, rfl⟩⟩; refine ⟨_, rfl, ?_⟩))
  go_ret
  exact ⟨_, by first | rfl | (simp [errW_none, errW_some] <;> rfl) | (simp [*, errW_none, errW_some] <;> rfl), by qR_; exact HO103.out, by qc0_⟩
 ·rw [if_neg c5] at H
  have c5b0 : (t104 == 0) = false := beq_eq_false_iff_ne.mpr c5
  have c5b1 : (t104 != 0) = true := bne_iff_ne.mpr c5
  replace H := Option.bind_eq_some_iff.mp H
  obtain ⟨t105, A70, H⟩ := H
  replace H : (if 0 ≤ (wrap64 ((wrap64 (8 * t104)) - 2)) then (varint_Append.l0 k t101 (Go.bits .or .u64 (IntKind.u64.wrap (a1)) (shl .u64 (IntKind.u64.wrap (t105)) (wrap64 ((wrap64 (8 * t104)) - 2)))) (wrap64 (t104 - 1))) else (none)) = some r := H
  have A7 := Aside0.mk A70
  clear A70
  obtain ⟨ji8, hji8⟩ : ∃ j_ : Int, (wrap64 ((wrap64 (8 * t104)) - 2)) = j_ := ⟨_, rfl⟩
  replace H : (if 0 ≤ (ji8) then (varint_Append.l0 k t101 (Go.bits .or .u64 (IntKind.u64.wrap (a1)) (shl .u64 (IntKind.u64.wrap (t105)) (ji8))) (wrap64 (t104 - 1))) else (none)) = some r := by first | (rw [hji8] at H; exact H) | (simp only [hji8] at H ⊢; exact H)
  (try rw [hji8] at A3)
  (try rw [hji8] at A4)
  (try rw [hji8] at A7)
  have hji8w : (IntKind.i64.wrap ((wrap64 (8 * t104)) - 2)) = ji8 := (i64_w _).trans hji8
  by_cases c9 : 0 ≤ (ji8)
  ·rw [if_pos c9] at H
   have c9b0 := eq_true c9
   have c9b1 : decide (0 ≤ (ji8)) = true := decide_eq_true c9
   clear c9
   obtain ⟨ji10, hji10⟩ : ∃ j_ : Int, (shl .u64 (IntKind.u64.wrap (t105)) (ji8)) = j_ := ⟨_, rfl⟩
   replace H : (varint_Append.l0 k t101 (Go.bits .or .u64 (IntKind.u64.wrap (a1)) (ji10)) (wrap64 (t104 - 1))) = some r := by first | (rw [hji10] at H; exact H) | (simp only [hji10] at H ⊢; exact H)
   (try rw [hji10] at A3)
   (try rw [hji10] at A4)
   (try rw [hji10] at A7)
   have hji10_ : (IntKind.u64.wrap ((IntKind.u64.wrap (t105)) * 2 ^ min (ji8).toNat 64)) = ji10 := hji10
   have hji10z : (ji8) ≤ 64 → (IntKind.u64.wrap ((IntKind.u64.wrap (t105)) * 2 ^ (ji8).toNat)) = ji10 := shl_small hji10
   have H' := Aside0.mk H
   clear H
   go_enter Tryd.func21, Tryd.ntmps21
   go_wp2_with (first | ((with_reducible refine gate_callee (f := 57) rfl ?_); refine goesL_ (some 11) rfl rfl Tryd.func57 (by kernel_rfl) rfl #[.slice A0 l0.length c0] rfl (pe41_) ?_; (with_reducible refine (slices_Clone_byte_byte.calls _ _ l0 t101 _ ?side1 ?side2 A3.out).mono ?_); (case side1 => repeat (first | exact HR0.out | (with_reducible refine Kd.C_alloc ?_ _) | (with_reducible refine Kd.C_drewN ?_ _) | (with_reducible refine Kd.C_drew ?_))); (case side2 => exact HC0.out); rintro e w11 ⟨v102, rfl, ho0, hb⟩; refine ⟨_, rfl, ?_⟩; have n0_ := Aside0.mk (Kd.R_lower ho0 (below_size (by qc0_))); have n1_ := Aside0.mk (below_step (by qc0_) hb); clear HB; have HO103 := n0_; have HB := n1_; clear n0_ n1_; (try clear hb); (try clear hb2); (try clear hk); (try clear hi); (try clear ho0)) | ((with_reducible refine gate_callee (f := 24) rfl ?_); refine goesL_ (some 13) rfl rfl Tryd.func24 (by kernel_rfl) rfl #[.int .i64 a1] rfl (pe41_) ?_; (with_reducible refine (varint_Size.calls a1 t104 _ A4.out).mono ?_); rintro e w' ⟨rfl, ⟨nd, rfl⟩⟩; refine ⟨_, rfl, ?_⟩) | ((with_reducible refine gate_callee (f := 58) rfl ?_); refine goesL_ (some 19) rfl rfl Tryd.func58 (by kernel_rfl) rfl #[.int .u64 (IntKind.u64.wrap (t104))] rfl (pe41_) ?_; (with_reducible refine (bits_TrailingZeros.calls (IntKind.u64.wrap (t104)) t105 _ ?sideT A7.out).mono ?_); (case sideT => repeat (first | exact HT.out | exact TB.below HT.out HB.out | exact TB.below HT.out HBW.out | (with_reducible refine TB.alloc ?_ _) | (with_reducible refine TB.drewN ?_ _) | (with_reducible refine TB.drew ?_))); rintro e w' ⟨rfl, ⟨nd, rfl⟩⟩; refine ⟨_, rfl, ?_⟩))
   go_loopg [5, 9] k (fun kq v5 v9 w' => ∃ (x5_1 : List Int) (x9_1 : Int), v9 = .int .i64 x9_1 ∧ Aside0 (varint_Append.l0 kq x5_1 (Go.bits .or .u64 (IntKind.u64.wrap (a1)) (ji10)) x9_1 = some r) ∧ Aside0 (kq ≤ k) ∧ Aside0 (Kd.R (Kd.int .u8) 5 w' w.heap.size (fun _ => True) v5 x5_1) ∧ Aside0 (Below w.heap.size w w'))
   case atStart => exact ⟨(t101), (wrap64 (t104 - 1)), (by first | rfl | (simp; done) | (simp [*]; done)), H', ⟨Nat.le_refl _⟩, ⟨by qR_; exact HO103.out⟩, ⟨by qc0_⟩⟩
   case round =>
    clear H'
    try clear c2
    try clear p2
    try clear c5
    try clear c5b0
    try clear c5b1
    try clear p6
    try clear c9
    try clear c9b0
    try clear c9b1
    obtain ⟨x5_1, x9_1, rfl, HA, HK1, HO_5, HB⟩ := hrel
    cases gk with
    | zero => exact absurd HA.out (by simp [varint_Append.l0])
    | succ k1 =>
     have H := HA.out
     clear HA
     simp only [varint_Append.l0] at H
     by_cases c12 : x9_1 ≥ 0
     ·rw [if_pos c12] at H
      have c12b0 : decide (0 ≤ x9_1) = true := decide_eq_true c12
      clear c12
      obtain ⟨ji13, hji13⟩ : ∃ j_ : Int, (wrap64 (8 * x9_1)) = j_ := ⟨_, rfl⟩
      replace H : (if 0 ≤ (ji13) then (if x5_1.length < 140737488355328 then (varint_Append.l0 k1 (x5_1 ++ [(shr .u64 (Go.bits .or .u64 (IntKind.u64.wrap (a1)) (ji10)) (ji13)) % 256]) (Go.bits .or .u64 (IntKind.u64.wrap (a1)) (ji10)) (wrap64 (x9_1 - 1))) else (none)) else (none)) = some r := by first | (rw [hji13] at H; exact H) | (simp only [hji13] at H ⊢; exact H)
      have hji13w : (IntKind.i64.wrap (8 * x9_1)) = ji13 := (i64_w _).trans hji13
      by_cases c14 : 0 ≤ (ji13)
      ·rw [if_pos c14] at H
       have c14b0 := eq_true c14
       have c14b1 : decide (0 ≤ (ji13)) = true := decide_eq_true c14
       clear c14
       obtain ⟨ji15, hji15⟩ : ∃ j_ : Int, (shr .u64 (Go.bits .or .u64 (IntKind.u64.wrap (a1)) (ji10)) (ji13)) = j_ := ⟨_, rfl⟩
       replace H : (if x5_1.length < 140737488355328 then (varint_Append.l0 k1 (x5_1 ++ [(ji15) % 256]) (Go.bits .or .u64 (IntKind.u64.wrap (a1)) (ji10)) (wrap64 (x9_1 - 1))) else (none)) = some r := by first | (rw [hji15] at H; exact H) | (simp only [hji15] at H ⊢; exact H)
       have hji15_ : ((Go.bits .or .u64 (IntKind.u64.wrap (a1)) (ji10)) / 2 ^ min (ji13).toNat 64) = ji15 := hji15
       have hji15z : (ji13) ≤ 64 → ((Go.bits .or .u64 (IntKind.u64.wrap (a1)) (ji10)) / 2 ^ (ji13).toNat) = ji15 := shr_small hji15
       by_cases c16 : x5_1.length < 140737488355328
       ·rw [if_pos c16] at H
        have LMc16 := Aside0.mk c16
        clear c16
        obtain ⟨y106, hy106⟩ : ∃ y_ : List Int, y_ = (x5_1 ++ [(ji15) % 256]) := ⟨_, rfl⟩
        replace H : (varint_Append.l0 k1 y106 (Go.bits .or .u64 (IntKind.u64.wrap (a1)) (ji10)) (wrap64 (x9_1 - 1))) = some r := by first | (rw [hy106]; with_reducible exact H) | (have H2_ := (Option.bind_some _ _).symm.trans H; rw [hy106]; with_reducible exact H2_) | (have H2_ := (Option.bind_some _ _).symm.trans H; with_reducible exact H2_) | with_reducible exact H | (rw [hy106]; exact H) | exact H
        have Ny106 := Aside0.mk hy106
        clear hy106
        have H' := Aside0.mk H
        clear H
        go_wp2_with (first | ((with_reducible refine gate_builtin (b := .append) (xs := #[.tmp 35, .tmp 41]) rfl ?_); at_builtin; refine Kd.R_append (Kd.int .u8) (w0 := w) w.heap.size rfl (.tmp 35) (.tmp 41) 22 5 (.int .u8 0) 1 rfl Tryd.underlying22 info5 rfl (by decide) (by omega) u5 x5_1 ((ji15) % 256) [.int .u8 ((ji15) % 256)] (fun _ => True) (fun _ => False) rfl rfl ?aP (fun _ hk => hk.elim) ?aF ?aO ?aB ?aS ?aL ?_; (case aP => exact rfl); (case aB => exact (by qc0_)); (case aF => exact (fun _ _ => trivial)); (case aO => exact (by qR_; exact HO_5.out)); (case aS => exact (below_size (by qc0_))); (case aL => have := LMc16.out; omega); intro v107 w17 ho hb hg hat; rw [← Ny106.out] at ho; have n0_ := Aside0.mk (hb); have n1_ := Aside0.mk (ho); clear HB; clear HO_5; have HB := n0_; have HO108 := n1_; clear n0_ n1_; clear ho hb hg hat))
        go_roundg k1
        case measure => have := HK1.out; omega
        case rel => exact ⟨(y106), (wrap64 (x9_1 - 1)), (by first | rfl | (simp; done) | (simp [*]; done)), H', ⟨by have := HK1.out; omega⟩, ⟨by qR_; exact HO108.out⟩, ⟨by qc0_⟩⟩
       ·rw [if_neg c16] at H
        exact absurd H (by simp)
      ·rw [if_neg c14] at H
       exact absurd H (by simp)
     ·rw [if_neg c12] at H
      have c12b0 : decide (0 ≤ x9_1) = false := decide_eq_false c12
      clear c12
      obtain rfl := Option.some.inj H
      go_wp2
      go_ret
      exact ⟨_, by first | rfl | (simp [errW_none, errW_some] <;> rfl) | (simp only [← hji8, ← hji10]; first | rfl | (simp [errW_none, errW_some] <;> rfl)) | (simp [*, errW_none, errW_some] <;> rfl), by qR_; exact HO_5.out, by qc0_⟩
  ·rw [if_neg c9] at H
   exact absurd H (by simp)
def shibbolethref01_Size.j0 : Nat → Int → Bool → Option (Int)
 | 0, _, _ => none
 | k + 1, x0, x8 => if x8 = true then (some 0) else (if x0 < 64 then (some 1) else (if x0 < 16384 then (some 2) else (if x0 < 1073741824 then (some 4) else (some 8))))
def shibbolethref01_Size.f (k : Nat) (a0 : Int) : Option (Int) := if a0 < 0 then (shibbolethref01_Size.j0 k a0 true) else (shibbolethref01_Size.j0 k a0 (decide (a0 > 4611686018427387903)))
theorem shibbolethref01_Size.mono_l : ∀ k, (∀ y0 y1, LeO (shibbolethref01_Size.j0 k y0 y1) (shibbolethref01_Size.j0 (k + 1) y0 y1))
 | 0 => fun _ _ r h => by simp [shibbolethref01_Size.j0] at h
 | k + 1 => by
  have ih0 := shibbolethref01_Size.mono_l k
  ·intro y0 y1
   unfold shibbolethref01_Size.j0
   repeat' first
   | (with_reducible exact ih0 _ _)
   | (with_reducible exact LeO.refl _)
   | (with_reducible exact LeO.none _)
   | (with_reducible refine LeO.ite ?_ ?_)
   | (with_reducible refine LeO.bind ?_ (fun _ => ?_))
   | exact ih0 _ _
   | exact LeO.none _
   | refine LeO.ite ?_ ?_
   | refine LeO.bind ?_ (fun _ => ?_)
theorem shibbolethref01_Size.mono : ∀ a0 k, LeO (shibbolethref01_Size.f k a0) (shibbolethref01_Size.f (k + 1) a0) := by
 intro a0 k
 have ih0 := shibbolethref01_Size.mono_l k
 unfold shibbolethref01_Size.f
 repeat' first
   | (with_reducible exact ih0 _ _)
   | (with_reducible exact LeO.refl _)
   | (with_reducible exact LeO.none _)
   | (with_reducible refine LeO.ite ?_ ?_)
   | (with_reducible refine LeO.bind ?_ (fun _ => ?_))
   | exact ih0 _ _
   | exact LeO.none _
   | refine LeO.ite ?_ ?_
   | refine LeO.bind ?_ (fun _ => ?_)
set_option maxHeartbeats 8000000 in
set_option maxRecDepth 100000 in
theorem shibbolethref01_Size.calls (k : Nat) (a0 : Int) (r : Int) (w : World) (h : shibbolethref01_Size.f k a0 = some r) :
  Calls Tryd.prog 25 #[.int .i64 a0] w fun e w' => e = .returned (.int .i64 r) ∧ Drawn0 w w' := by
 have H : (if a0 < 0 then (shibbolethref01_Size.j0 k a0 true) else (shibbolethref01_Size.j0 k a0 (decide (a0 > 4611686018427387903)))) = some r := h
 clear h
 have HC2 := Aside0.mk H
 clear H
 go_enter Tryd.func25, Tryd.ntmps25
 go_upto_region 1 with (fail)
 go_cut [8] (fun v8 wc => ∃ (kq : Nat) (x8_1 : Bool), v8 = .bool x8_1 ∧ Aside0 (shibbolethref01_Size.j0 kq a0 x8_1 = some r) ∧ Aside0 (kq ≤ k) ∧ Drawn0 w wc)
 case first =>
  have H := HC2.out
  clear HC2
  by_cases c3 : a0 < 0
  ·rw [if_pos c3] at H
   have c3b0 : decide (a0 < 0) = true := decide_eq_true c3
   clear c3
   (first | rw [c3b0] | (simp only [i64_w, i32_w]; rw [c3b0]) | skip)
   have H' := Aside0.mk H
   clear H
   go_wp2
   go_meet
   case rel => exact ⟨_, (true), (by first | rfl | (simp; done) | (simp [*]; done)), H', ⟨by first | omega | exact Nat.le_refl _⟩, by repeat (first | exact Drawn0.refl _ | apply Drawn0.step)⟩
  ·rw [if_neg c3] at H
   have c3b0 : decide (a0 < 0) = false := decide_eq_false c3
   clear c3
   (first | rw [c3b0] | (simp only [i64_w, i32_w]; rw [c3b0]) | skip)
   have H' := Aside0.mk H
   clear H
   go_wp2
   go_meet
   case rel => exact ⟨_, (decide (a0 > 4611686018427387903)), (by first | rfl | (simp; done) | (simp [*]; done)), H', ⟨by first | omega | exact Nat.le_refl _⟩, by repeat (first | exact Drawn0.refl _ | apply Drawn0.step)⟩
 case rest =>
  clear HC2
  try clear c2
  try clear p2
  try clear c3
  try clear c3b0
  obtain ⟨kq, x8_1, rfl, HA, HJ1, ⟨mc1, rfl⟩⟩ := hcut
  cases kq with
  | zero => exact absurd HA.out (by simp [shibbolethref01_Size.j0])
  | succ kj1 =>
   have H := HA.out
   clear HA
   simp only [shibbolethref01_Size.j0] at H
   by_cases c4 : x8_1 = true
   ·subst c4
    have H1 : (some 0) = some r := by rw [if_pos rfl] at H; exact H
    clear H
    have H := H1
    clear H1
    obtain rfl := Option.some.inj H
    go_wp2
    go_ret
    le40_
   ·replace c4 := Bool.eq_false_iff.mpr c4
    subst c4
    have H1 : (if a0 < 64 then (some 1) else (if a0 < 16384 then (some 2) else (if a0 < 1073741824 then (some 4) else (some 8)))) = some r := by rw [if_neg (show ¬ (false = true) by decide)] at H; exact H
    clear H
    have H := H1
    clear H1
    by_cases c5 : a0 < 64
    ·rw [if_pos c5] at H
     have c5b0 : decide (a0 < 64) = true := decide_eq_true c5
     clear c5
     obtain rfl := Option.some.inj H
     go_wp2
     go_ret
     le40_
    ·rw [if_neg c5] at H
     have c5b0 : decide (a0 < 64) = false := decide_eq_false c5
     clear c5
     by_cases c6 : a0 < 16384
     ·rw [if_pos c6] at H
      have c6b0 : decide (a0 < 16384) = true := decide_eq_true c6
      clear c6
      obtain rfl := Option.some.inj H
      go_wp2
      go_ret
      le40_
     ·rw [if_neg c6] at H
      have c6b0 : decide (a0 < 16384) = false := decide_eq_false c6
      clear c6
      by_cases c7 : a0 < 1073741824
      ·rw [if_pos c7] at H
       have c7b0 : decide (a0 < 1073741824) = true := decide_eq_true c7
       clear c7
       obtain rfl := Option.some.inj H
       go_wp2
       go_ret
       le40_
      ·rw [if_neg c7] at H
       have c7b0 : decide (a0 < 1073741824) = false := decide_eq_false c7
       clear c7
       obtain rfl := Option.some.inj H
       go_wp2
       go_ret
       le40_
end Go.Proofs.YtbcleckapamicaaDoor.QVa
namespace Go.Proofs.YtbcleckapamicaaDoor.QVa
open Go.RowKit Go.Proofs.YtbcleckapamicaaDoorW.PrintWords Go.Proofs.YtbcleckapamicaaDoorW.PrintLast Go.Proofs.YtbcleckapamicaaDoorW.PrintMore
attribute [local go_sem] max2_int min2_int max_two min_two max_three min_three max_four min_four
set_option linter.unusedVariables false
set_option linter.unusedSimpArgs false
open Go.Proofs.YtbcleckapamicaaDoor.Gv (TB TB.below TB.alloc TB.drew TB.drewN)
def varint_Give.f (k : Nat) (l0 : List Int) (l1 : List Int) : Option (List Int) := (varint_Append.f k l0 (l1.length : Int)).bind fun t219 => (if t219.length + l1.length < 140737488355328 then (some (t219 ++ l1)) else (none))
theorem varint_Give.mono : ∀ a0 a1 k, LeO (varint_Give.f k a0 a1) (varint_Give.f (k + 1) a0 a1) := by
 intro a0 a1 k
 unfold varint_Give.f
 repeat' first
   | (with_reducible exact varint_Append.mono _ _ _)
   | (with_reducible exact LeO.refl _)
   | (with_reducible exact LeO.none _)
   | (with_reducible refine LeO.ite ?_ ?_)
   | (with_reducible refine LeO.bind ?_ (fun _ => ?_))
   | exact varint_Append.mono _ _ _
   | exact LeO.none _
   | refine LeO.ite ?_ ?_
   | refine LeO.bind ?_ (fun _ => ?_)
set_option maxHeartbeats 8000000 in
set_option maxRecDepth 100000 in
theorem varint_Give.calls (k : Nat) (A0 : Option Addr) (c0 : Nat) (l0 : List Int) (A1 : Option Addr) (c1 : Nat) (l1 : List Int) (r : List Int) (w : World) (hr0 : Kd.C (Kd.int .u8) w A0 l0.length l0) (hc0 : l0.length ≤ c0) (hr1 : Kd.C (Kd.int .u8) w A1 l1.length l1) (hc1 : l1.length ≤ c1) (ht : TB w) (h : varint_Give.f k l0 l1 = some r) :
  Calls Tryd.prog 31 #[.slice A0 l0.length c0, .slice A1 l1.length c1] w fun e w' => ∃ v0_ : Value, e = .returned (v0_) ∧ Kd.R (Kd.int .u8) 5 w' w.heap.size (fun _ => True) v0_ r ∧ Below w.heap.size w w' := by
 have HT := Aside0.mk ht
 clear ht
 have HR0 := Aside0.mk hr0
 have HC0 := Aside0.mk hc0
 clear hr0 hc0
 have HR1 := Aside0.mk hr1
 have HC1 := Aside0.mk hc1
 clear hr1 hc1
 have HB := Aside0.mk (Below.refl w.heap.size w)
 have H : ((varint_Append.f k l0 (l1.length : Int)).bind fun t219 => (if t219.length + l1.length < 140737488355328 then (some (t219 ++ l1)) else (none))) = some r := h
 clear h
 replace H := Option.bind_eq_some_iff.mp H
 obtain ⟨t219, A30, H⟩ := H
 replace H : (if t219.length + l1.length < 140737488355328 then (some (t219 ++ l1)) else (none)) = some r := H
 have A3 := Aside0.mk A30
 clear A30
 by_cases c4 : t219.length + l1.length < 140737488355328
 ·rw [if_pos c4] at H
  have LMc4 := Aside0.mk c4
  clear c4
  obtain ⟨y222, hy222⟩ : ∃ y_ : List Int, y_ = (t219 ++ l1) := ⟨_, rfl⟩
  replace H : (some y222) = some r := by first | (rw [hy222]; with_reducible exact H) | (have H2_ := (Option.bind_some _ _).symm.trans H; rw [hy222]; with_reducible exact H2_) | (have H2_ := (Option.bind_some _ _).symm.trans H; with_reducible exact H2_) | with_reducible exact H | (rw [hy222]; exact H) | exact H
  have Ny222 := Aside0.mk hy222
  clear hy222
  obtain rfl := Option.some.inj H
  go_enter Tryd.func31, Tryd.ntmps31
  go_wp2_with (first | ((with_reducible refine gate_callee (f := 21) rfl ?_); refine goesL_ (some 8) rfl rfl Tryd.func21 (by kernel_rfl) rfl #[.slice A0 l0.length c0, .int .i64 (l1.length : Int)] rfl (by (try simp only [List.map_toArray, List.map_cons, List.map_nil]); first | done | rfl | (simp only [List.length_drop, List.length_take]; rfl)) ?_; (with_reducible refine (varint_Append.calls k _ _ l0 (l1.length : Int) t219 _ ?side1 ?side2 ?sideT A3.out).mono ?_); (case sideT => repeat (first | exact HT.out | exact TB.below HT.out HB.out | exact TB.below HT.out HBW.out | (with_reducible refine TB.alloc ?_ _) | (with_reducible refine TB.drewN ?_ _) | (with_reducible refine TB.drew ?_))); (case side1 => repeat (first | exact HR0.out | (with_reducible refine Kd.C_alloc ?_ _) | (with_reducible refine Kd.C_drewN ?_ _) | (with_reducible refine Kd.C_drew ?_))); (case side2 => exact HC0.out); rintro e w5 ⟨v220, rfl, ho0, hb⟩; refine ⟨_, rfl, ?_⟩; have n0_ := Aside0.mk (Kd.R_lower ho0 (below_size (by qc0_))); have n1_ := Aside0.mk (below_step (by qc0_) hb); clear HB; have HO221 := n0_; have HB := n1_; clear n0_ n1_; (try clear hb); (try clear hb2); (try clear hk); (try clear hi); (try clear ho0)) | ((with_reducible refine gate_builtin (b := .append) (xs := #[.tmp 8, .tmp 9]) rfl ?_); at_builtin; refine Kd.R_append_rows (Kd.int .u8) (w0 := w) w.heap.size rfl (.tmp 8) (.tmp 9) 22 5 (.int .u8 0) 1 rfl Tryd.underlying22 info5 rfl (by decide) (by omega) v220 t219 l1 _ _ _ (fun _ => True) (fun _ => False) rfl rfl ?aO ?aR (fun _ _ h => h) (fun _ h => h.elim) ?aF ?aB ?aS ?aL ?_; (case aR => repeat (first | exact (Kd.C_below HR1.out HB.out) | exact HR1.out | (with_reducible refine Kd.C_alloc ?_ _) | (with_reducible refine Kd.C_drewN ?_ _) | (with_reducible refine Kd.C_drew ?_))); (case aB => exact (by qc0_)); (case aF => exact (fun _ _ => trivial)); (case aO => exact (by qR_; exact HO221.out)); (case aS => exact (below_size (by qc0_))); (case aL => have := LMc4.out; omega); intro v223 w6 ho hb hg hat; rw [← Ny222.out] at ho; have n0_ := Aside0.mk (hb); have n1_ := Aside0.mk (ho); clear HB; clear HO221; have HB := n0_; have HO224 := n1_; clear n0_ n1_; clear ho hb hg hat))
  go_ret
  exact ⟨_, by first | rfl | (simp [errW_none, errW_some] <;> rfl) | (simp [*, errW_none, errW_some] <;> rfl), by qR_; exact HO224.out, by qc0_⟩
 ·rw [if_neg c4] at H
  exact absurd H (by simp)
end Go.Proofs.YtbcleckapamicaaDoor.QVa
namespace Go.Proofs.YtbcleckapamicaaDoor.Gw
open Go.RowKit Go.Proofs.YtbcleckapamicaaDoorW.PrintWords Go.Proofs.YtbcleckapamicaaDoorW.PrintLast Go.Proofs.YtbcleckapamicaaDoorW.PrintMore Go.Proofs.YtbcleckapamicaaDoor.Gv
set_option linter.unusedVariables false
set_option linter.unusedSimpArgs false
end Go.Proofs.YtbcleckapamicaaDoor.Gw
namespace Go.Proofs.YtbcleckapamicaaDoor.Gw
open Go.RowKit Go.Proofs.YtbcleckapamicaaDoorW.PrintWords Go.Proofs.YtbcleckapamicaaDoorW.PrintLast Go.Proofs.YtbcleckapamicaaDoorW.PrintMore Go.Proofs.YtbcleckapamicaaDoor.Gv
set_option linter.unusedVariables false
set_option linter.unusedSimpArgs false
def front (y : List (List Int)) (k : Nat) : List Int := (y.take k).flatten
end Go.Proofs.YtbcleckapamicaaDoor.Gw
namespace Go.Proofs.YtbcleckapamicaaDoor.Gf
open Go.RowKit Go.Proofs.YtbcleckapamicaaDoorW.PrintWords Go.Proofs.YtbcleckapamicaaDoorW.PrintLast Go.Proofs.YtbcleckapamicaaDoorW.PrintMore Go.Proofs.YtbcleckapamicaaDoor.Gv
set_option linter.unusedVariables false
set_option linter.unusedSimpArgs false
def tbytes (h : Int) : List Int := if h < 1 ∨ h > 65536 then [] else [h / 16777216 % 256, h / 65536 % 256, h / 256 % 256, h % 256]
def ideal_Number.f (a0 : Int) : Option (List Int) := some (tbytes a0)
def arr (h : Int) (k : Nat) : List Int := if k = 0 then [0, 0, 0, 0] else if k = 1 then [h / 16777216 % 256, 0, 0, 0] else if k = 2 then [h / 16777216 % 256, h / 65536 % 256, 0, 0] else if k = 3 then [h / 16777216 % 256, h / 65536 % 256, h / 256 % 256, 0] else [h / 16777216 % 256, h / 65536 % 256, h / 256 % 256, h % 256]
set_option maxHeartbeats 1000000 in
theorem ideal_Number.calls (a0 : Int) (r : List Int) (w : World) (h : ideal_Number.f a0 = some r) :
    Calls Tryd.prog 65 #[.int .i64 a0] w fun e w' => ∃ v0_ : Value, e = .returned (v0_) ∧ Kd.R (Kd.int .u8) 138 w' w.heap.size (fun _ => True) v0_ r ∧ Below w.heap.size w w' := by
  obtain rfl : tbytes a0 = r := Option.some.inj h
  clear h
  have HB := Aside0.mk (Below.refl w.heap.size w)
  by_cases h1 : a0 < 1
  · have e : tbytes a0 = [] := by unfold tbytes; rw [if_pos (.inl h1)]
    rw [e]; clear e
    go_enter Tryd.func65, Tryd.ntmps65
    go_wp2
    go_ret
    exact ⟨_, rfl, Kd.R_nil _ _ _ _ _, HB.out⟩
  by_cases h2 : 65536 < a0
  · have e : tbytes a0 = [] := by unfold tbytes; rw [if_pos (.inr h2)]
    rw [e]; clear e
    go_enter Tryd.func65, Tryd.ntmps65
    go_wp2
    go_ret
    exact ⟨_, rfl, Kd.R_nil _ _ _ _ _, HB.out⟩
  have e : tbytes a0 = arr a0 4 := by unfold tbytes; rw [if_neg (by omega)]; rfl
  rw [e]; clear e
  have HO := Aside0.mk (Kd.R_of_own (h1 := fun _ => rfl) (enc := Value.int .u8) (xs := arr a0 4) (ok := fun _ => True) (own_lit w w.heap.size 138 .u8 (arr a0 4) (Nat.le_refl _) (by simp [arr])) (fun _ _ => trivial))
  go_enter Tryd.func65, Tryd.ntmps65
  go_wp2
  go_loopg [11] 4 (fun gg v11 wr => ∃ kk : Nat, kk ≤ 4 ∧ 4 - kk ≤ gg ∧ v11 = .int .i64 kk ∧ wr = w.alloc (.cells (nums .u8 (arr a0 kk)).toArray 138))
  case atStart => exact ⟨0, Nat.zero_le _, by omega, rfl, by rfl⟩
  case round =>
    obtain ⟨kk, hkk, hg, rfl, hw⟩ := hrel
    subst hw
    obtain rfl | rfl | rfl | rfl | rfl : kk = 0 ∨ kk = 1 ∨ kk = 2 ∨ kk = 3 ∨ kk = 4 := by omega
    · simp only [arr, nums]
      go_wp2
      go_roundg 3
      case measure => omega
      case rel => exact ⟨1, by omega, by omega, rfl, by
        have e1 : a0 / 16777216 % 256 = a0 / 16777216 := by omega
        have e2 : a0 / 65536 % 256 = a0 / 65536 := by omega
        simp [arr, nums, e1, e2]⟩
    · simp only [arr, nums]
      go_wp2
      go_roundg 2
      case measure => omega
      case rel => exact ⟨2, by omega, by omega, rfl, by
        have e1 : a0 / 16777216 % 256 = a0 / 16777216 := by omega
        have e2 : a0 / 65536 % 256 = a0 / 65536 := by omega
        simp [arr, nums, e1, e2]⟩
    · simp only [arr, nums]
      go_wp2
      go_roundg 1
      case measure => omega
      case rel => exact ⟨3, by omega, by omega, rfl, by
        have e1 : a0 / 16777216 % 256 = a0 / 16777216 := by omega
        have e2 : a0 / 65536 % 256 = a0 / 65536 := by omega
        simp [arr, nums, e1, e2]⟩
    · simp only [arr, nums]
      go_wp2
      go_roundg 0
      case measure => omega
      case rel => exact ⟨4, by omega, by omega, rfl, by
        have e1 : a0 / 16777216 % 256 = a0 / 16777216 := by omega
        have e2 : a0 / 65536 % 256 = a0 / 65536 := by omega
        simp [arr, nums, e1, e2]⟩
    · go_wp2
      go_ret
      exact ⟨_, rfl, HO.out, below_alloc HB.out _⟩
end Go.Proofs.YtbcleckapamicaaDoor.Gf
