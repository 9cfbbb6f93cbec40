/- A part of the proof of the law FrameBack: PrmFrameBack, QFdx4, FrP2, FrP3, Tk0, TkP, FdP, FdQ, PureFrameBack, Tab. -/
import Derived.Test.YtbcleckapamicaaDoorZFbk13
import Derived.Test.YtbcleckapamicaaDoorZFbk02
import Derived.Test.YtbcleckapamicaaDoorZFbk10
import Derived.Test.YtbcleckapamicaaDoorZFbk12
import Derived.Test.YtbcleckapamicaaDoorZFbk11
import Derived.Test.YtbcleckapamicaaDoorRows
import Derived.LaidLaws
import Derived.Lib.LaidTab
import Derived.Stop.LaidErr
namespace Go.Proofs.YtbcleckapamicaaDoor.frameBackPrm
open Go.RowKit Go.Proofs.YtbcleckapamicaaDoorW.PrintWords Go.Proofs.YtbcleckapamicaaDoor.QFd Go.Proofs.YtbcleckapamicaaDoor.Opn Go.Proofs.YtbcleckapamicaaDoor.QFr
set_option linter.unusedVariables false
def ok3 : Int → Prop := fun n => (Lit.int .i64 n).wf = true
theorem opens_ok3 : Opens Tryd.prog 3 (Kd.int .i64) ok3 := Opens.int Tryd.underlying3
def ok102 : S102 → Prop := fun x => ok3 x.f0 ∧ ok3 x.f1
theorem opens_ok102 : Opens Tryd.prog 102 k102 ok102 := Opens.struct Tryd.underlying102 (by kernel_rfl) (OpensF.iso (fun p => ⟨p.1, p.2⟩) (fun _ => rfl) (OpensF.cons rfl (by kernel_rfl) opens_ok3 (OpensF.last rfl (by kernel_rfl) opens_ok3)))
def ok60 : List (S102) → Prop := fun xs => xs.length ≤ 9223372036854775807 ∧ ∀ x ∈ xs, ok102 x
theorem opens_ok60 : Opens Tryd.prog 60 (Kd.slice 102 k102) ok60 := Opens.slice Tryd.underlying60 (by kernel_rfl) opens_ok102
def ok5 : Int → Prop := fun n => (Lit.int .u8 n).wf = true
theorem opens_ok5 : Opens Tryd.prog 5 (Kd.int .u8) ok5 := Opens.int Tryd.underlying5
def ok22 : List (Int) → Prop := fun xs => xs.length ≤ 9223372036854775807 ∧ ∀ x ∈ xs, ok5 x
theorem opens_ok22 : Opens Tryd.prog 22 (Kd.slice 5 (Kd.int .u8)) ok22 := Opens.slice Tryd.underlying22 (by kernel_rfl) opens_ok5
def ok62 : S62 → Prop := fun x => ok3 x.f0 ∧ ok3 x.f1 ∧ ok60 x.f2 ∧ ok3 x.f3 ∧ ok22 x.f4 ∧ ok3 x.f5
theorem opens_ok62 : Opens Tryd.prog 62 k62 ok62 := Opens.struct Tryd.underlying62 (by kernel_rfl) (OpensF.iso (fun p => ⟨p.1, p.2.1, p.2.2.1, p.2.2.2.1, p.2.2.2.2.1, p.2.2.2.2.2⟩) (fun _ => rfl) (OpensF.cons rfl (by kernel_rfl) opens_ok3 (OpensF.cons rfl (by kernel_rfl) opens_ok3 (OpensF.cons rfl (by kernel_rfl) opens_ok60 (OpensF.cons rfl (by kernel_rfl) opens_ok3 (OpensF.cons rfl (by kernel_rfl) opens_ok22 (OpensF.last rfl (by kernel_rfl) opens_ok3)))))))
def ok52 : List (S62) → Prop := fun xs => xs.length ≤ 9223372036854775807 ∧ ∀ x ∈ xs, ok62 x
theorem opens_ok52 : Opens Tryd.prog 52 (Kd.slice 62 k62) ok52 := Opens.slice Tryd.underlying52 (by kernel_rfl) opens_ok62
def Pure : Prop := ∀ (x0 : List (S62)), ok52 x0 → ∃ k, shibbolethlaw06_FrameBack.f k x0 = some true
end Go.Proofs.YtbcleckapamicaaDoor.frameBackPrm
namespace Go.Proofs.YtbcleckapamicaaDoor.QFd
open Go.RowKit Go.Proofs.YtbcleckapamicaaDoorW.PrintWords Go.Proofs.YtbcleckapamicaaDoorW.PrintLast Go.Proofs.YtbcleckapamicaaDoorW.PrintMore
attribute [local go_sem] max2_int min2_int max_two min_two max_three min_three max_four min_four
set_option linter.unusedVariables false
set_option linter.unusedSimpArgs false
end Go.Proofs.YtbcleckapamicaaDoor.QFd
namespace Go.Proofs.YtbcleckapamicaaDoor.FrP
open Go.RowKit Go.Proofs.YtbcleckapamicaaDoorW.PrintWords Go.Proofs.YtbcleckapamicaaDoorW.PrintLast Go.Proofs.YtbcleckapamicaaDoorW.PrintMore Go.Proofs.YtbcleckapamicaaDoor.QFr Go.Proofs.YtbcleckapamicaaDoor.Vn
open Go.Proofs.YtbcleckapamicaaDoor.Gv (varint_Size.f)
open Go.Proofs.YtbcleckapamicaaDoor.Gf (ideal_Number.f tbytes)
open Go.Proofs.YtbcleckapamicaaDoor.QVa (varint_Append.f varint_Give.f shibbolethref01_Size.f)
open Go.Proofs.YtbcleckapamicaaDoor.VaP (append_f size_f)
set_option linter.unusedVariables false
set_option linter.unusedSimpArgs false
def ackFrom (l : List S103) : Nat → Nat → List Int
  | _, 0 => []
  | i, d + 1 => (if 0 < i then vbytes ((rd_T103 l ((i - 1 : Nat) : Int)).f0 - (rd_T103 l (i : Int)).f1 - 2) else []) ++ vbytes ((rd_T103 l (i : Int)).f1 - (rd_T103 l (i : Int)).f0) ++ ackFrom l (i + 1) d
theorem ackFrom_len (l : List S103) : ∀ d i, (ackFrom l i d).length ≤ 16 * d := by
  intro d
  induction d with
  | zero => intro i; simp [ackFrom]
  | succ d ih =>
    intro i
    have h1 := ih (i + 1)
    have h2 := vbytes_le ((rd_T103 l ((i - 1 : Nat) : Int)).f0 - (rd_T103 l (i : Int)).f1 - 2)
    have h3 := vbytes_le ((rd_T103 l (i : Int)).f1 - (rd_T103 l (i : Int)).f0)
    simp only [ackFrom, List.length_append]
    split <;> simp <;> omega
theorem acked_l (l : List S103) (hl : l.length ≤ 100) (hok : ∀ j, j < l.length → okAt l j) : ∀ (d i k : Nat) (x : List Int), i + d = l.length → d + 20 < k → x.length + 16 * d ≤ 100000 → frame_acked.l0 k l x l (l.length : Int) (i : Int) = some (x ++ ackFrom l i d) := by
  intro d
  induction d with
  | zero =>
    intro i k x hi hk hx
    obtain ⟨k, rfl⟩ : ∃ m, k = m + 1 := ⟨k - 1, by omega⟩
    simp only [frame_acked.l0, ackFrom]
    rw [if_neg (by omega)]
    simp
  | succ d ih =>
    intro i k x hi hk hx
    obtain ⟨k, rfl⟩ : ∃ m, k = m + 1 := ⟨k - 1, by omega⟩
    have ho := hok i (by omega)
    have ho1 := ho.1
    have ho2 := ho.2.1
    have ho3 := ho.2.2.1
    have h2 := vbytes_le ((rd_T103 l ((i - 1 : Nat) : Int)).f0 - (rd_T103 l (i : Int)).f1 - 2)
    have h3 := vbytes_le ((rd_T103 l (i : Int)).f1 - (rd_T103 l (i : Int)).f0)
    have e2 : wrap64 ((rd_T103 l (i : Int)).f1 - (rd_T103 l (i : Int)).f0) = (rd_T103 l (i : Int)).f1 - (rd_T103 l (i : Int)).f0 := by unfold wrap64; omega
    simp only [frame_acked.l0, ackFrom]
    rw [if_pos (by omega), if_pos (by omega), if_pos (by omega), e2, w1 i (by omega)]
    by_cases h0 : (i : Int) > 0
    · have hp := hok (i - 1) (by omega)
      have hp1 := hp.1
      have hp2 := hp.2.1
      have hp3 := hp.2.2.1
      have ho4 := ho.2.2.2 (by omega)
      rw [if_pos h0, wm1 i (by omega) (by omega), if_pos (by omega), if_pos (by omega), if_pos (by omega)]
      have e3 : wrap64 ((wrap64 ((rd_T103 l ((i - 1 : Nat) : Int)).f0 - (rd_T103 l (i : Int)).f1)) - 2) = (rd_T103 l ((i - 1 : Nat) : Int)).f0 - (rd_T103 l (i : Int)).f1 - 2 := by unfold wrap64; omega
      rw [e3, append_f x _ (by omega) k (by omega)]
      simp only [Option.bind_some]
      rw [append_f _ _ (by simp; omega) k (by omega)]
      simp only [Option.bind_some]
      rw [ih (i + 1) k _ (by omega) (by omega) (by simp; omega)]
      simp
    · rw [if_neg h0, if_neg (by omega), append_f x _ (by omega) k (by omega)]
      simp only [Option.bind_some]
      rw [ih (i + 1) k _ (by omega) (by omega) (by simp; omega)]
      simp
def fbytes (a0 a1 : Int) (l2 : List S103) (a3 : Int) (l4 : List Int) (a5 : Int) : List Int :=
  if a0 = 0 then List.replicate a1.toNat 0 else
  if a0 = 2 then [2] ++ vbytes (rd_T103 l2 0).f1 ++ vbytes ((l2.length : Int) - 1) ++ ackFrom l2 0 l2.length else
  if a0 = 6 then [6] ++ vbytes a3 ++ vbytes l4.length ++ l4 else
  if a0 = 7 then [7] ++ tbytes a5 else
  if a0 = 8 then [8] ++ vbytes a1 ++ tbytes a5 else
  if a0 = 28 then [28] ++ vbytes a1 else [a0 % 256]
theorem tbytes_le (h : Int) : (tbytes h).length ≤ 4 := by unfold tbytes; split <;> simp
theorem fbytes_len (a0 a1 : Int) (l2 : List S103) (a3 : Int) (l4 : List Int) (a5 : Int) (h : fright a0 a1 l2 a3 l4 a5) : (fbytes a0 a1 l2 a3 l4 a5).length ≤ 1300 := by
  unfold fright at h
  unfold fbytes
  have t := tbytes_le a5
  have v1 := vbytes_le a1
  have v3 := vbytes_le a3
  have v4 := vbytes_le (l4.length : Int)
  have v5 := vbytes_le (rd_T103 l2 0).f1
  have v6 := vbytes_le ((l2.length : Int) - 1)
  have v7 := ackFrom_len l2 l2.length 0
  rcases h with h | h | h | h | h | h | h
  · rw [if_pos h.1]; simp; omega
  · rw [if_neg (by omega), if_neg (by omega), if_neg (by omega), if_neg (by omega), if_neg (by omega), if_neg (by omega)]; simp
  · have hs := h.2.1.2.2
    rw [if_neg (by omega), if_pos h.1]; simp; omega
  · rw [if_neg (by omega), if_neg (by omega), if_pos h.1]; simp; omega
  · rw [if_neg (by omega), if_neg (by omega), if_neg (by omega), if_pos h.1]; simp; omega
  · rw [if_neg (by omega), if_neg (by omega), if_neg (by omega), if_neg (by omega), if_pos h.1]; simp; omega
  · rw [if_neg (by omega), if_neg (by omega), if_neg (by omega), if_neg (by omega), if_neg (by omega), if_pos h.1]; simp; omega
theorem give_f (l p : List Int) (hl : l.length ≤ 100000) (hp : p.length ≤ 100000) (k : Nat) (hk : 9 < k) : varint_Give.f k l p = some (l ++ vbytes p.length ++ p) := by
  have h8 := vbytes_le (p.length : Int)
  unfold varint_Give.f
  rw [append_f l _ (by omega) k hk]
  simp only [Option.bind_some]
  rw [if_pos (by rw [List.length_append]; omega)]
theorem bytes_frame (a0 a1 : Int) (l2 : List S103) (a3 : Int) (l4 : List Int) (a5 : Int) (hf : fright a0 a1 l2 a3 l4 a5) (k : Nat) (hk : 200 < k) : frame_bytes.f k a0 a1 l2 a3 l4 a5 = some (fbytes a0 a1 l2 a3 l4 a5) := by
  have h := hf
  unfold fright at h
  unfold frame_bytes.f fbytes ideal_Number.f
  simp only [Option.bind_some]
  have t := tbytes_le a5
  have v1 := vbytes_le a1
  have v3 := vbytes_le a3
  have v4 := vbytes_le (l4.length : Int)
  have v5 := vbytes_le (rd_T103 l2 0).f1
  have v6 := vbytes_le ((l2.length : Int) - 1)
  have v7 := ackFrom_len l2 l2.length 0
  rcases h with h | h | h | h | h | h | h
  · rw [if_pos h.1, if_pos h.1, if_pos (by omega), if_pos (by omega)]
  · have n : a0 ≠ 0 ∧ a0 ≠ 2 ∧ a0 ≠ 6 ∧ a0 ≠ 7 ∧ a0 ≠ 8 ∧ a0 ≠ 28 := by omega
    simp [n.1, n.2.1, n.2.2.1, n.2.2.2.1, n.2.2.2.2.1, n.2.2.2.2.2]
  · obtain ⟨rfl, hS, _⟩ := h
    have hs := hS.2.2
    have hs0 := hS.2.1
    simp only [Int.reduceEq, if_false, if_true]
    unfold frame_acked.f
    have e : wrap64 ((l2.length : Int) - 1) = (l2.length : Int) - 1 := by unfold wrap64; omega
    have ha := acked_l l2 (by omega) hS.1 l2.length 0 k (vbytes (rd_T103 l2 0).f1 ++ vbytes ((l2.length : Int) - 1)) (by omega) (by omega) (by simp; omega)
    rw [if_pos (by omega), e, append_f [] _ (by simp) k (by omega)]
    simp only [Option.bind_some, List.nil_append]
    rw [append_f _ _ (by omega) k (by omega)]
    simp only [Option.bind_some]
    have ha' : frame_acked.l0 k l2 (vbytes (rd_T103 l2 0).f1 ++ vbytes ((l2.length : Int) - 1)) l2 (l2.length : Int) 0 = _ := ha
    rw [ha']
    simp only [Option.bind_some]
    rw [if_pos (by simp; omega)]
    simp
  · obtain ⟨rfl, _⟩ := h
    simp only [Int.reduceEq, if_false, if_true]
    rw [append_f _ _ (by simp) k (by omega)]
    simp only [Option.bind_some]
    rw [give_f _ _ (by simp; omega) (by omega) k (by omega)]
    simp
  · obtain ⟨rfl, _⟩ := h
    simp only [Int.reduceEq, if_false, if_true]
    rw [if_pos (by simp; omega)]
    simp
  · obtain ⟨rfl, _⟩ := h
    simp only [Int.reduceEq, if_false, if_true]
    rw [append_f _ _ (by simp) k (by omega)]
    simp only [Option.bind_some]
    rw [if_pos (by simp; omega)]
    simp
  · obtain ⟨rfl, _⟩ := h
    simp only [Int.reduceEq, if_false, if_true]
    rw [append_f _ _ (by simp) k (by omega)]
    simp
end Go.Proofs.YtbcleckapamicaaDoor.FrP
namespace Go.Proofs.YtbcleckapamicaaDoor.FrP
open Go.RowKit Go.Proofs.YtbcleckapamicaaDoorW.PrintWords Go.Proofs.YtbcleckapamicaaDoorW.PrintLast Go.Proofs.YtbcleckapamicaaDoorW.PrintMore Go.Proofs.YtbcleckapamicaaDoor.QFr Go.Proofs.YtbcleckapamicaaDoor.Vn
set_option linter.unusedVariables false
set_option linter.unusedSimpArgs false
def cvF (x : S62) : S58 := ⟨x.f0, x.f1, cv x.f2, x.f3, x.f4, x.f5⟩
theorem rd_map (L : List S62) (i : Nat) (h : i < L.length) : rd_T58 (L.map cvF) (i : Int) = cvF (rd_T62 L (i : Int)) := by
  simp [rd_T58, rd_T62, List.getD_eq_getElem?_getD, List.getElem?_map, List.getElem?_eq_getElem h]
def told (x : List Int) : List Int × Int := if (x.length : Int) > 1200 then ([], 4) else (x, 0)
theorem of_l (a0 a1 : Int) (l2 : List S102) (a3 : Int) (l4 : List Int) (a5 : Int) (b0 b1 : Int) (b3 : Int) (b4 : List Int) (b5 : Int) (hl : l2.length ≤ 100) : ∀ (d i k : Nat), i + d = l2.length → d < k →
    shibbolethlaw06_of.l0 k (i : Int) a0 a1 l2 a3 l4 a5 b0 b1 (cv (l2.take i)) b3 b4 b5 = some (b0, b1, cv l2, b3, b4, b5) := by
  intro d
  induction d with
  | zero =>
    intro i k hi hk
    obtain ⟨k, rfl⟩ : ∃ m, k = m + 1 := ⟨k - 1, by omega⟩
    simp only [shibbolethlaw06_of.l0]
    rw [if_neg (by omega), List.take_of_length_le (by omega)]
  | succ d ih =>
    intro i k hi hk
    obtain ⟨k, rfl⟩ : ∃ m, k = m + 1 := ⟨k - 1, by omega⟩
    have hi' : i < l2.length := by omega
    simp only [shibbolethlaw06_of.l0]
    rw [if_pos (by omega), if_pos (by omega), if_pos (by rw [cv_len, List.length_take]; omega), w1 i (by omega)]
    have e : cv (l2.take i) ++ [(⟨(rd_T102 l2 (i : Int)).f0, (rd_T102 l2 (i : Int)).f1⟩ : S103)] = cv (l2.take (i + 1)) := by
      rw [List.take_succ_eq_append_getElem hi']
      unfold cv
      rw [List.map_append]
      have q : rd_T102 l2 (i : Int) = l2[i] := by simp [rd_T102, List.getD_eq_getElem?_getD, List.getElem?_eq_getElem hi']
      rw [q]; rfl
    rw [e]
    exact ih (i + 1) k (by omega) (by omega)
theorem of_f (x : S62) (hl : x.f2.length ≤ 100) (h4 : x.f4.length ≤ 2000) (k : Nat) (hk : 100 < k) : shibbolethlaw06_of.f k x.f0 x.f1 x.f2 x.f3 x.f4 x.f5 = some (x.f0, x.f1, cv x.f2, x.f3, x.f4, x.f5) := by
  unfold shibbolethlaw06_of.f
  simp only [Option.bind_some, List.length_nil, List.nil_append]
  rw [if_pos (by omega)]
  exact of_l x.f0 x.f1 x.f2 x.f3 x.f4 x.f5 x.f0 x.f1 x.f3 x.f4 x.f5 hl x.f2.length 0 k (by omega) (by omega)
theorem all_l (L : List S62) (hn : L.length ≤ 30) (hs : ∀ j, j < L.length → (rd_T62 L ((j : Nat) : Int)).f2.length ≤ 50 ∧ (rd_T62 L ((j : Nat) : Int)).f4.length ≤ 1100) : ∀ (d i k : Nat), i + d = L.length → d + 200 < k →
    shibbolethlaw06_all.l0 k L ((L.take i).map cvF) (i : Int) = some (L.map cvF) := by
  intro d
  induction d with
  | zero =>
    intro i k hi hk
    obtain ⟨k, rfl⟩ : ∃ m, k = m + 1 := ⟨k - 1, by omega⟩
    simp only [shibbolethlaw06_all.l0]
    rw [if_neg (by omega), List.take_of_length_le (by omega)]
  | succ d ih =>
    intro i k hi hk
    obtain ⟨k, rfl⟩ : ∃ m, k = m + 1 := ⟨k - 1, by omega⟩
    have hi' : i < L.length := by omega
    have hq := hs i hi'
    simp only [shibbolethlaw06_all.l0]
    rw [if_pos (by omega), if_pos (by omega), of_f _ (by omega) (by omega) k (by omega)]
    simp only [Option.bind_some]
    rw [if_pos (by rw [List.length_map, List.length_take]; omega), w1 i (by omega)]
    have e : (L.take i).map cvF ++ [(⟨(rd_T62 L (i : Int)).f0, (rd_T62 L (i : Int)).f1, cv (rd_T62 L (i : Int)).f2, (rd_T62 L (i : Int)).f3, (rd_T62 L (i : Int)).f4, (rd_T62 L (i : Int)).f5⟩ : S58)] = (L.take (i + 1)).map cvF := by
      rw [List.take_succ_eq_append_getElem hi', List.map_append]
      have q : rd_T62 L (i : Int) = L[i] := by simp [rd_T62, List.getD_eq_getElem?_getD, List.getElem?_eq_getElem hi']
      rw [q]; rfl
    rw [e]
    exact ih (i + 1) k (by omega) (by omega)
theorem light_l (L : List S62) (hn : L.length ≤ 30) : ∀ (d i k : Nat), i + d = L.length → d < k → ∃ b, shibbolethlaw06_light.l0 k L (i : Int) = some b ∧ (b = true → ∀ j, i ≤ j → j < L.length → (rd_T62 L ((j : Nat) : Int)).f2.length ≤ 50 ∧ (rd_T62 L ((j : Nat) : Int)).f4.length ≤ 1100) := by
  intro d
  induction d with
  | zero =>
    intro i k hi hk
    obtain ⟨k, rfl⟩ : ∃ m, k = m + 1 := ⟨k - 1, by omega⟩
    simp only [shibbolethlaw06_light.l0]
    rw [if_neg (by omega)]
    exact ⟨_, rfl, fun _ j h1 h2 => by omega⟩
  | succ d ih =>
    intro i k hi hk
    obtain ⟨k, rfl⟩ : ∃ m, k = m + 1 := ⟨k - 1, by omega⟩
    simp only [shibbolethlaw06_light.l0]
    rw [if_pos (by omega), if_pos (by omega), w1 i (by omega)]
    by_cases h1 : ((rd_T62 L (i : Int)).f2.length : Int) > 50
    · rw [if_pos h1]; exact ⟨_, rfl, fun h => by cases h⟩
    by_cases h2 : ((rd_T62 L (i : Int)).f4.length : Int) > 1100
    · rw [if_neg h1, if_pos h2]; exact ⟨_, rfl, fun h => by cases h⟩
    rw [if_neg h1, if_neg h2]
    obtain ⟨b, hb, hbi⟩ := ih (i + 1) k (by omega) (by omega)
    refine ⟨b, hb, fun h j hj1 hj2 => ?_⟩
    rcases Nat.lt_or_ge i j with hij | hij
    · exact hbi h j (by omega) hj2
    · have : j = i := by omega
      rw [this]; exact ⟨by omega, by omega⟩
end Go.Proofs.YtbcleckapamicaaDoor.FrP
namespace Go.Proofs.YtbcleckapamicaaDoor.Tk
open Go.RowKit Go.Proofs.YtbcleckapamicaaDoorW.PrintWords Go.Proofs.YtbcleckapamicaaDoorW.PrintLast Go.Proofs.YtbcleckapamicaaDoorW.PrintMore
open Go.Proofs.YtbcleckapamicaaDoor.QVa (shibbolethref01_Read.f shibbolethref01_Read.calls shibbolethref01_Read.mono)
set_option linter.unusedVariables false
set_option linter.unusedSimpArgs false
theorem info5 : (Tryd.prog.info? 5).map (fun i => (i.zero, i.size, i.bytes)) = some (some (.int .u8 0), 1, 1) := by kernel_rfl
end Go.Proofs.YtbcleckapamicaaDoor.Tk
namespace Go.Proofs.YtbcleckapamicaaDoor.TkP
open Go.RowKit Go.Proofs.YtbcleckapamicaaDoor.QVa Go.Proofs.YtbcleckapamicaaDoor.Vn Go.Proofs.YtbcleckapamicaaDoor.VaP Go.Proofs.YtbcleckapamicaaDoorW.PrintWords
open Go.Proofs.YtbcleckapamicaaDoor.Gv (bits_TrailingZeros.f slices_Clone_byte_byte.f varint_Size.f varint_Read.f)
set_option linter.unusedVariables false
set_option linter.unusedSimpArgs false
end Go.Proofs.YtbcleckapamicaaDoor.TkP
namespace Go.Proofs.YtbcleckapamicaaDoor.FdP
open Go.RowKit Go.Proofs.YtbcleckapamicaaDoorW.PrintWords Go.Proofs.YtbcleckapamicaaDoorW.PrintLast Go.Proofs.YtbcleckapamicaaDoorW.PrintMore Go.Proofs.YtbcleckapamicaaDoor.QFr Go.Proofs.YtbcleckapamicaaDoor.Vn Go.Proofs.YtbcleckapamicaaDoor.FrP
open Go.Proofs.YtbcleckapamicaaDoor.Gf (tbytes)
open Go.Proofs.YtbcleckapamicaaDoor.Fd (num4 rnum rbyt rtrm padF gapF spanF ackF ackR body fr58 next frames)
set_option linter.unusedVariables false
set_option linter.unusedSimpArgs false
def fb58 (f : S58) : List Int := fbytes f.f0 f.f1 f.f2 f.f3 f.f4 f.f5
theorem rnum_vbytes (n : Int) (hn : 0 ≤ n) (hn' : n ≤ 4611686018427387903) (r : List Int) : rnum (vbytes n ++ r) = some (n, r) := by
  unfold rnum
  rw [vread_vbytes n hn hn' r, if_pos rfl]
  simp
theorem rnum_len {l r : List Int} {n : Int} (h : rnum l = some (n, r)) : r.length ≤ l.length ∧ (∀ x ∈ r, x ∈ l) := by
  unfold rnum at h
  split at h
  · injection h with h
    injection h with h1 h2
    rw [← h2]
    exact ⟨by simp, fun x hx => List.mem_of_mem_drop hx⟩
  · cases h
theorem rbyt_self (d r : List Int) : rbyt (d ++ r) (d.length : Int) = some (d, r) := by
  unfold rbyt
  rw [if_pos (by simp; omega)]
  simp
theorem rtrm_self (h : Int) (h1 : 1 ≤ h) (h2 : h ≤ 65536) (r : List Int) : rtrm (tbytes h ++ r) = some (h, r) := by
  have ht : tbytes h = [h / 16777216 % 256, h / 65536 % 256, h / 256 % 256, h % 256] := by unfold tbytes; exact if_neg (by omega)
  rw [ht]
  unfold rtrm
  have e : num 0 (([h / 16777216 % 256, h / 65536 % 256, h / 256 % 256, h % 256] ++ r).take 4) = h := by
    simp only [List.cons_append, List.nil_append, List.take_succ_cons, List.take_zero, num4, Fd.upto]
    omega
  rw [e, if_pos ⟨by simp, h1, h2⟩]
  simp
theorem padF_self (n : Nat) (r : List Int) (hr : r.head? ≠ some 0) : padF (List.replicate n 0 ++ r) = (n, r) := by
  induction n with
  | zero =>
    cases r with
    | nil => rfl
    | cons x t =>
      have hx : x ≠ 0 := fun e => hr (by rw [e]; rfl)
      show padF (x :: t) = _
      rw [padF, if_neg hx]
  | succ n ih =>
    rw [List.replicate_succ, List.cons_append, padF, if_pos rfl, ih]
def ackB : Int → List S103 → List Int
  | _, [] => []
  | p, s :: t => vbytes (p - s.f1 - 2) ++ vbytes (s.f1 - s.f0) ++ ackB s.f0 t
def okB : Int → List S103 → Prop
  | _, [] => True
  | p, s :: t => 0 ≤ s.f0 ∧ s.f0 ≤ s.f1 ∧ s.f1 ≤ 4611686018427387903 ∧ s.f1 ≤ p - 2 ∧ okB s.f0 t
theorem ackF_self : ∀ (s : List S103) (p : Int) (hp : p ≤ 4611686018427387903) (h : okB p s) (r : List Int), ackF s.length p (ackB p s ++ r) = some (s, r) := by
  intro s
  induction s with
  | nil => intro p _ _ r; rfl
  | cons s t ih =>
    intro p hp h r
    obtain ⟨h1, h2, h3, h4, h5⟩ := h
    simp only [ackB, List.length_cons, ackF, gapF, spanF, List.append_assoc]
    rw [rnum_vbytes _ (by omega) (by omega)]
    simp only [Option.bind_some]
    rw [if_pos (by omega)]
    simp only [Option.bind_some]
    rw [rnum_vbytes _ (by omega) (by omega)]
    simp only [Option.bind_some]
    have e1 : p - (p - s.f1 - 2 + 2) = s.f1 := by omega
    have e2 : s.f1 - (s.f1 - s.f0) = s.f0 := by omega
    rw [e1, if_pos (by omega), e2]
    simp only [Option.bind_some]
    rw [ih s.f0 (by omega) h5 r]
    rfl
theorem rd_drop (l : List S103) (i : Nat) {s : S103} {t : List S103} (h : l.drop i = s :: t) : rd_T103 l (i : Int) = s ∧ l.drop (i + 1) = t ∧ i < l.length := by
  have hi : i < l.length := by
    rcases Nat.lt_or_ge i l.length with q | q
    · exact q
    · rw [List.drop_of_length_le q] at h; cases h
  rw [List.drop_eq_getElem_cons hi] at h
  injection h with h1 h2
  exact ⟨by simp [rd_T103, List.getD_eq_getElem?_getD, List.getElem?_eq_getElem hi, h1], h2, hi⟩
theorem ackFrom_list (l : List S103) : ∀ (t : List S103) (i : Nat), l.drop (i + 1) = t → ackFrom l (i + 1) t.length = ackB (rd_T103 l (i : Int)).f0 t := by
  intro t
  induction t with
  | nil => intro i _; rfl
  | cons s t ih =>
    intro i h
    obtain ⟨e1, e2, _⟩ := rd_drop l (i + 1) h
    rw [List.length_cons, ackFrom, if_pos (by omega), show i + 1 - 1 = i from rfl, ih (i + 1) e2, e1]
    rfl
theorem ackFrom_cons (s : S103) (t : List S103) : ackFrom (s :: t) 0 (s :: t).length = vbytes (s.f1 - s.f0) ++ ackB s.f0 t := by
  rw [List.length_cons, ackFrom, if_neg (by omega), ackFrom_list (s :: t) t 0 rfl]
  rfl
theorem okB_iff (l : List S103) : ∀ (t : List S103) (i : Nat), l.drop (i + 1) = t → ((∀ j, i < j → j < l.length → okAt l j) ↔ okB (rd_T103 l (i : Int)).f0 t) := by
  intro t
  induction t with
  | nil =>
    intro i h
    have : l.length ≤ i + 1 := by rcases Nat.lt_or_ge (i + 1) l.length with q | q
                                  · rw [List.drop_eq_getElem_cons q] at h; cases h
                                  · exact q
    exact ⟨fun _ => trivial, fun _ j h1 h2 => by omega⟩
  | cons s t ih =>
    intro i h
    obtain ⟨e1, e2, e3⟩ := rd_drop l (i + 1) h
    have hi := ih (i + 1) e2
    rw [e1] at hi
    constructor
    · intro hh
      have a := hh (i + 1) (by omega) e3
      have b := a.2.2.2 (by omega)
      rw [show i + 1 - 1 = i from rfl] at b
      unfold okAt at a
      rw [e1] at a b
      exact ⟨a.1, a.2.1, a.2.2.1, b, hi.1 (fun j h1 h2 => hh j (by omega) h2)⟩
    · rintro ⟨a1, a2, a3, a4, a5⟩ j h1 h2
      rcases Nat.lt_or_ge (i + 1) j with q | q
      · exact hi.2 a5 j q h2
      · obtain rfl : j = i + 1 := by omega
        unfold okAt
        rw [e1, show i + 1 - 1 = i from rfl]
        exact ⟨a1, a2, a3, fun _ => a4⟩
theorem spansOK_cons (s : S103) (t : List S103) : spansOK (s :: t) ↔ (0 ≤ s.f0 ∧ s.f0 ≤ s.f1 ∧ s.f1 ≤ 4611686018427387903) ∧ okB s.f0 t ∧ t.length < 32 := by
  have h := okB_iff (s :: t) t 0 rfl
  have e : rd_T103 (s :: t) ((0 : Nat) : Int) = s := rfl
  rw [e] at h
  unfold spansOK
  constructor
  · rintro ⟨a, _, c⟩
    have a0 := a 0 (by simp)
    unfold okAt at a0
    rw [e] at a0
    exact ⟨⟨a0.1, a0.2.1, a0.2.2.1⟩, h.1 (fun j _ hj => a j hj), by simp at c; omega⟩
  · rintro ⟨a, b, c⟩
    refine ⟨fun j hj => ?_, by simp, by simp; omega⟩
    rcases Nat.eq_zero_or_pos j with rfl | q
    · unfold okAt; rw [e]; exact ⟨a.1, a.2.1, a.2.2, fun q => by omega⟩
    · exact h.2 b j q hj
def ackW (s : S103) (t : List S103) : List Int := vbytes s.f1 ++ vbytes (t.length : Int) ++ (vbytes (s.f1 - s.f0) ++ ackB s.f0 t)
theorem fb_ack (a1 a3 a5 : Int) (l4 : List Int) (s : S103) (t : List S103) : fbytes 2 a1 (s :: t) a3 l4 a5 = 2 :: ackW s t := by
  unfold fbytes ackW
  rw [if_neg (by decide), if_pos rfl, ackFrom_cons]
  have e : (((s :: t).length : Nat) : Int) - 1 = (t.length : Int) := by simp
  rw [e]
  have e2 : rd_T103 (s :: t) 0 = s := rfl
  rw [e2]
  simp
theorem ackR_self (s : S103) (t : List S103) (h : spansOK (s :: t)) (r : List Int) : ackR (ackW s t ++ r) = some (s :: t, r) := by
  obtain ⟨⟨h1, h2, h3⟩, h4, h5⟩ := (spansOK_cons s t).1 h
  unfold ackR ackW
  simp only [List.append_assoc]
  rw [rnum_vbytes _ (by omega) (by omega)]
  simp only [Option.bind_some]
  rw [rnum_vbytes _ (by omega) (by omega)]
  simp only [Option.bind_some]
  rw [if_pos (by omega)]
  unfold spanF
  rw [rnum_vbytes _ (by omega) (by omega)]
  simp only [Option.bind_some]
  rw [if_pos (by omega), show s.f1 - (s.f1 - s.f0) = s.f0 from by omega]
  simp only [Option.bind_some, Int.toNat_natCast]
  rw [ackF_self t s.f0 (by omega) h4 r]
  rfl
theorem nil_of {α : Type} {l : List α} (h : l.length = 0) : l = [] := List.length_eq_zero_iff.1 h
set_option maxHeartbeats 1000000 in
theorem next_self (f : S58) (hf : fr58 f) (r : List Int) (hr : f.f0 = 0 → r.head? ≠ some 0) : next (fb58 f ++ r) = some (f, r) := by
  obtain ⟨a0, a1, l2, a3, l4, a5⟩ := f
  have key : ∃ t, fb58 ⟨a0, a1, l2, a3, l4, a5⟩ ++ r = a0 :: t ∧ body a0 t = some (⟨a0, a1, l2, a3, l4, a5⟩, r) := by
    unfold fr58 fright at hf
    unfold fb58
    simp only [] at hf hr ⊢
    rcases hf with ⟨rfl, h1, h2, h3, rfl, h5, rfl⟩ | ⟨h0, rfl, h3, rfl, h5, rfl⟩ | ⟨rfl, hS, rfl, rfl, h5, rfl⟩ | ⟨rfl, h1, h2, h3, h4, rfl, h5, rfl⟩ | ⟨rfl, h1, h2, rfl, h3, rfl, h5⟩ | ⟨rfl, h1, h2, h3, h4, h5, rfl, h6⟩ | ⟨rfl, h1, h2, h3, rfl, h5, rfl⟩
    · obtain rfl := nil_of h3
      obtain rfl := nil_of h5
      obtain ⟨n, rfl⟩ : ∃ n : Nat, a1 = (n : Int) + 1 := ⟨(a1 - 1).toNat, by omega⟩
      refine ⟨List.replicate n 0 ++ r, ?_, ?_⟩
      · unfold fbytes
        rw [if_pos rfl, show ((n : Int) + 1).toNat = n + 1 from by omega, List.replicate_succ]
        rfl
      · unfold body
        rw [if_pos rfl, padF_self n r (hr rfl)]
    · obtain rfl := nil_of h3
      obtain rfl := nil_of h5
      rcases h0 with rfl | rfl
      · exact ⟨r, rfl, rfl⟩
      · exact ⟨r, rfl, rfl⟩
    · obtain rfl := nil_of h5
      match l2, hS with
      | [], hS => exact absurd hS.2.1 (by simp)
      | s :: t, hS =>
        refine ⟨ackW s t ++ r, by rw [fb_ack]; rfl, ?_⟩
        unfold body
        rw [if_neg (by decide), if_neg (by decide), if_neg (by decide), if_pos rfl, ackR_self s t hS r]
        rfl
    · obtain rfl := nil_of h5
      refine ⟨vbytes a3 ++ (vbytes l4.length ++ (l4 ++ r)), ?_, ?_⟩
      · unfold fbytes
        rw [if_neg (by decide), if_neg (by decide), if_pos rfl]
        simp
      · unfold body
        rw [if_neg (by decide), if_neg (by decide), if_neg (by decide), if_neg (by decide), if_pos rfl, rnum_vbytes _ (by omega) (by omega)]
        simp only [Option.bind_some]
        rw [rnum_vbytes _ (by omega) (by omega)]
        simp only [Option.bind_some]
        rw [rbyt_self]
        rfl
    · obtain rfl := nil_of h3
      obtain rfl := nil_of h5
      refine ⟨tbytes a5 ++ r, ?_, ?_⟩
      · unfold fbytes
        rw [if_neg (by decide), if_neg (by decide), if_neg (by decide), if_pos rfl]
        rfl
      · unfold body
        rw [if_neg (by decide), if_neg (by decide), if_neg (by decide), if_neg (by decide), if_neg (by decide), if_pos rfl, rtrm_self _ h1 h2]
        rfl
    · obtain rfl := nil_of h5
      obtain rfl := nil_of h6
      refine ⟨vbytes a1 ++ (tbytes a5 ++ r), ?_, ?_⟩
      · unfold fbytes
        rw [if_neg (by decide), if_neg (by decide), if_neg (by decide), if_neg (by decide), if_pos rfl]
        simp
      · unfold body
        rw [if_neg (by decide), if_neg (by decide), if_neg (by decide), if_neg (by decide), if_neg (by decide), if_neg (by decide), if_pos rfl, rnum_vbytes _ h3 h4]
        simp only [Option.bind_some]
        rw [rtrm_self _ h1 h2]
        rfl
    · obtain rfl := nil_of h3
      obtain rfl := nil_of h5
      refine ⟨vbytes a1 ++ r, ?_, ?_⟩
      · unfold fbytes
        rw [if_neg (by decide), if_neg (by decide), if_neg (by decide), if_neg (by decide), if_neg (by decide), if_pos rfl]
        rfl
      · unfold body
        rw [if_neg (by decide), if_neg (by decide), if_neg (by decide), if_neg (by decide), if_neg (by decide), if_neg (by decide), if_neg (by decide), if_pos rfl, rnum_vbytes _ h1 h2]
        rfl
  obtain ⟨t, e, hb⟩ := key
  rw [e, next, hb]
  simp only [Option.bind_some]
  rw [if_pos hf]
def noAdj : List S58 → Prop
  | [] => True
  | f :: t => (f.f0 = 0 → ∀ g, t.head? = some g → g.f0 ≠ 0) ∧ noAdj t
def wrt (L : List S58) : List Int := (L.map fb58).flatten
theorem fb_head (f : S58) (hf : fr58 f) : ∃ t, fb58 f = f.f0 :: t := by
  obtain ⟨a0, a1, l2, a3, l4, a5⟩ := f
  unfold fr58 fright at hf
  unfold fb58 fbytes
  simp only [] at hf ⊢
  by_cases h0 : a0 = 0
  · obtain ⟨n, rfl⟩ : ∃ n : Nat, a1 = (n : Int) + 1 := ⟨(a1 - 1).toNat, by omega⟩
    rw [if_pos h0, show ((n : Int) + 1).toNat = n + 1 from by omega, List.replicate_succ, h0]
    exact ⟨_, rfl⟩
  rw [if_neg h0]
  by_cases h2 : a0 = 2
  · rw [if_pos h2, h2]; exact ⟨_, rfl⟩
  rw [if_neg h2]
  by_cases h6 : a0 = 6
  · rw [if_pos h6, h6]; exact ⟨_, rfl⟩
  rw [if_neg h6]
  by_cases h7 : a0 = 7
  · rw [if_pos h7, h7]; exact ⟨_, rfl⟩
  rw [if_neg h7]
  by_cases h8 : a0 = 8
  · rw [if_pos h8, h8]; exact ⟨_, rfl⟩
  rw [if_neg h8]
  by_cases h28 : a0 = 28
  · rw [if_pos h28, h28]; exact ⟨_, rfl⟩
  rw [if_neg h28]
  have : a0 % 256 = a0 := by omega
  rw [this]
  exact ⟨_, rfl⟩
theorem wrt_cons (f : S58) (t : List S58) : wrt (f :: t) = fb58 f ++ wrt t := by simp [wrt]
theorem wrt_head (L : List S58) (hL : ∀ f ∈ L, fr58 f) : (wrt L).head? = L.head?.map (·.f0) := by
  cases L with
  | nil => rfl
  | cons f t =>
    obtain ⟨u, e⟩ := fb_head f (hL f (by simp))
    rw [wrt_cons, e]
    rfl
theorem wrt_len (L : List S58) (hL : ∀ f ∈ L, fr58 f) : L.length ≤ (wrt L).length := by
  induction L with
  | nil => simp
  | cons f t ih =>
    obtain ⟨u, e⟩ := fb_head f (hL f (by simp))
    have := ih (fun g hg => hL g (by simp [hg]))
    rw [wrt_cons, e]
    simp
    omega
theorem frames_self : ∀ (L : List S58) (n : Nat), (∀ f ∈ L, fr58 f) → noAdj L → L.length < n → frames n (wrt L) = some L := by
  intro L
  induction L with
  | nil => intro n _ _ hn; obtain ⟨n, rfl⟩ : ∃ m, n = m + 1 := ⟨n - 1, by omega⟩; rfl
  | cons f t ih =>
    intro n hL hA hn
    simp only [List.length_cons] at hn
    obtain ⟨n, rfl⟩ : ∃ m, n = m + 1 := ⟨n - 1, by omega⟩
    have hf := hL f (by simp)
    have hx := next_self f hf (wrt t) (fun h0 => by
      rw [wrt_head t (fun g hg => hL g (by simp [hg]))]
      intro e
      obtain ⟨g, hg, hg0⟩ := Option.map_eq_some_iff.1 e
      exact hA.1 h0 g hg hg0)
    obtain ⟨u, e⟩ := fb_head f hf
    rw [wrt_cons]
    rw [e] at hx ⊢
    rw [List.cons_append] at hx ⊢
    rw [frames, hx]
    simp only [Option.bind_some]
    rw [ih n (fun g hg => hL g (by simp [hg])) hA.2 (by omega)]
    rfl
end Go.Proofs.YtbcleckapamicaaDoor.FdP
namespace Go.Proofs.YtbcleckapamicaaDoor.FdQ
open Go.RowKit Go.Proofs.YtbcleckapamicaaDoorW.PrintWords Go.Proofs.YtbcleckapamicaaDoorW.PrintLast Go.Proofs.YtbcleckapamicaaDoorW.PrintMore Go.Proofs.YtbcleckapamicaaDoor.QFr Go.Proofs.YtbcleckapamicaaDoor.Vn Go.Proofs.YtbcleckapamicaaDoor.FrP Go.Proofs.YtbcleckapamicaaDoor.FdP
open Go.Proofs.YtbcleckapamicaaDoor.Gf (tbytes)
open Go.Proofs.YtbcleckapamicaaDoor.Fd (num4 rnum rbyt rtrm padF gapF spanF ackF ackR body fr58 next frames fread frame_Read.f body_len)
set_option linter.unusedVariables false
set_option linter.unusedSimpArgs false
theorem read_f (l : List Int) (hl : l.length ≤ 100000) (hB : Bytes l) : frame_Read.f l = some (fread l) := if_pos ⟨hl, hB⟩
theorem fread_good {l : List Int} {L : List S58} (h1 : l.length ≤ 1200) (h2 : l ≠ []) (h3 : frames (l.length + 1) l = some L) : fread l = (L, 0) := by
  unfold fread
  rw [if_neg (by omega), if_neg h2, h3]
def GoodL (L : List S58) : Prop := L ≠ [] ∧ (∀ f ∈ L, fr58 f) ∧ noAdj L ∧ (wrt L).length ≤ 1200
theorem fread_wrt {L : List S58} (h : GoodL L) : fread (wrt L) = (L, 0) := by
  obtain ⟨h1, h2, h3, h4⟩ := h
  have hlen := wrt_len L h2
  have hne : 0 < L.length := List.length_pos_iff.mpr h1
  refine fread_good h4 (fun e => by have h5 : (wrt L).length = 0 := (by rw [e]; rfl); omega) (frames_self L _ h2 h3 (by omega))
theorem rd58 (L : List S58) (i : Nat) (h : i < L.length) : rd_T58 L (i : Int) = L[i] := by
  simp [rd_T58, List.getD_eq_getElem?_getD, List.getElem?_eq_getElem h]
def okF (L : List S58) (j : Nat) : Prop := fr58 (rd_T58 L (j : Int)) ∧ (0 < j → ¬ ((rd_T58 L (j : Int)).f0 = 0 ∧ (rd_T58 L ((j - 1 : Nat) : Int)).f0 = 0))
theorem noAdj_of : ∀ (L : List S58), (∀ j, 0 < j → j < L.length → ¬ ((rd_T58 L (j : Int)).f0 = 0 ∧ (rd_T58 L ((j - 1 : Nat) : Int)).f0 = 0)) → noAdj L := by
  intro L
  induction L with
  | nil => intro _; trivial
  | cons f t ih =>
    intro h
    refine ⟨fun h0 g hg hg0 => ?_, ih (fun j hj hl q => ?_)⟩
    · cases t with
      | nil => cases hg
      | cons u t =>
        injection hg with hg
        subst hg
        refine h 1 (by decide) (by simp) ⟨hg0, ?_⟩
        exact h0
    · have e1 : rd_T58 (f :: t) ((j + 1 : Nat) : Int) = rd_T58 t (j : Int) := by
        rw [rd58 _ _ (by simp; omega), rd58 _ _ hl]; rfl
      have e2 : rd_T58 (f :: t) ((j + 1 - 1 : Nat) : Int) = rd_T58 t ((j - 1 : Nat) : Int) := by
        obtain ⟨m, rfl⟩ : ∃ m, j = m + 1 := ⟨j - 1, by omega⟩
        rw [rd58 _ _ (by simp; omega), rd58 _ _ (by omega)]; rfl
      exact h (j + 1) (by omega) (by simp; omega) (by rw [e1, e2]; exact q)
theorem noAdj_at : ∀ (L : List S58), noAdj L → ∀ j, 0 < j → j < L.length → ¬ ((rd_T58 L (j : Int)).f0 = 0 ∧ (rd_T58 L ((j - 1 : Nat) : Int)).f0 = 0) := by
  intro L
  induction L with
  | nil => intro _ j _ hl; simp at hl
  | cons f t ih =>
    intro h j hj hl q
    obtain ⟨m, rfl⟩ : ∃ m, j = m + 1 := ⟨j - 1, by omega⟩
    simp only [List.length_cons] at hl
    have e1 : rd_T58 (f :: t) ((m + 1 : Nat) : Int) = rd_T58 t (m : Int) := by
      rw [rd58 _ _ (by simp; omega), rd58 _ _ (by omega)]; rfl
    have e2 : rd_T58 (f :: t) ((m + 1 - 1 : Nat) : Int) = rd_T58 (f :: t) (m : Int) := rfl
    rw [e1, e2] at q
    rcases Nat.eq_zero_or_pos m with rfl | hm
    · cases t with
      | nil => simp at hl
      | cons u t => exact h.1 q.2 u rfl q.1
    · refine ih h.2 m hm (by omega) ⟨q.1, ?_⟩
      obtain ⟨p, rfl⟩ : ∃ p, m = p + 1 := ⟨m - 1, by omega⟩
      have e3 : rd_T58 (f :: t) ((p + 1 : Nat) : Int) = rd_T58 t (p : Int) := by
        rw [rd58 _ _ (by simp; omega), rd58 _ _ (by omega)]; rfl
      rw [e3] at q
      exact q.2
theorem right_58 (f : S58) (hl : f.f2.length ≤ 100) (k : Nat) (hk : 200 < k) : ∃ b, frame_Right.f k f.f0 f.f1 f.f2 f.f3 f.f4 f.f5 = some b ∧ (b = true ↔ fr58 f) := right_f _ _ _ _ _ _ hl k hk
theorem write58_l0 (L : List S58) (hn : L.length ≤ 2000) (hs : ∀ j, j < L.length → (rd_T58 L ((j : Nat) : Int)).f2.length ≤ 100) : ∀ (d i k : Nat), i + d = L.length → d + 4000 < k →
    (frame_Write.l0 k L L (L.length : Int) (i : Int) = some (([] : List Int), 1) ∧ ¬ (∀ j, i ≤ j → j < L.length → okF L j)) ∨
    ((∀ j, i ≤ j → j < L.length → okF L j) ∧ frame_Write.l0 k L L (L.length : Int) (i : Int) = frame_Write.l1 (k - d - 1) [] L (L.length : Int) 0) := by
  intro d
  induction d with
  | zero =>
    intro i k hi hk
    obtain ⟨k, rfl⟩ : ∃ m, k = m + 1 := ⟨k - 1, by omega⟩
    right
    refine ⟨fun j h1 h2 => by omega, ?_⟩
    simp only [frame_Write.l0]
    rw [if_neg (by omega)]
    simp
  | succ d ih =>
    intro i k hi hk
    obtain ⟨k, rfl⟩ : ∃ m, k = m + 1 := ⟨k - 1, by omega⟩
    have hi' : i < L.length := by omega
    obtain ⟨b, hb, hbi⟩ := right_58 (rd_T58 L (i : Int)) (hs i hi') k (by omega)
    have ih' := ih (i + 1) k (by omega) (by omega)
    have hk' : k + 1 - (d + 1) - 1 = k - d - 1 := by omega
    simp only [frame_Write.l0]
    simp only [if_pos (show (i : Int) < (L.length : Int) by omega), if_pos (show (0 : Int) ≤ (i : Int) by omega), hb, Option.bind_some, hk']
    have bad : ∀ (h : ¬ okF L i), (some (([] : List Int), (1 : Int)) = some (([] : List Int), 1) ∧ ¬ (∀ j, i ≤ j → j < L.length → okF L j)) := fun h => ⟨rfl, fun q => h (q i (Nat.le_refl _) hi')⟩
    have step : okF L i → (frame_Write.l0 k L L (L.length : Int) ((i + 1 : Nat) : Int) = some (([] : List Int), 1) ∧ ¬ (∀ j, i ≤ j → j < L.length → okF L j)) ∨ ((∀ j, i ≤ j → j < L.length → okF L j) ∧ frame_Write.l0 k L L (L.length : Int) ((i + 1 : Nat) : Int) = frame_Write.l1 (k - d - 1) [] L (L.length : Int) 0) := by
      intro ho
      rcases ih' with ⟨h1, h2⟩ | ⟨h1, h2⟩
      · exact .inl ⟨h1, fun q => h2 (fun j hj hl => q j (by omega) hl)⟩
      · refine .inr ⟨fun j hj1 hj2 => ?_, h2⟩
        rcases Nat.lt_or_ge i j with hij | hij
        · exact h1 j (by omega) hj2
        · obtain rfl : j = i := by omega
          exact ho
    have w1' : wrap64 ((i : Int) + 1) = ((i + 1 : Nat) : Int) := w1 i (by omega)
    by_cases hbt : b = true
    · simp only [if_pos hbt, w1']
      have hfr := hbi.1 hbt
      by_cases h0 : (i : Int) > 0
      · simp only [if_pos h0]
        by_cases hz : (rd_T58 L (i : Int)).f0 = 0
        · simp only [if_pos hz, wm1 i (show 0 < i by omega) (show i < 100000 by omega), if_pos (show (0 : Int) ≤ ((i - 1 : Nat) : Int) by omega), if_pos (show ((i - 1 : Nat) : Int) < (L.length : Int) by omega)]
          by_cases hz' : (rd_T58 L ((i - 1 : Nat) : Int)).f0 = 0
          · simp only [if_pos hz']
            exact .inl ⟨trivial, (bad (fun h => h.2 (by omega) ⟨hz, hz'⟩)).2⟩
          · simp only [if_neg hz']
            exact step ⟨hfr, fun _ q => hz' q.2⟩
        · simp only [if_neg hz]
          exact step ⟨hfr, fun _ q => hz q.1⟩
      · simp only [if_neg h0]
        exact step ⟨hfr, fun q => by omega⟩
    · simp only [if_neg hbt]
      exact .inl ⟨trivial, (bad (fun h => hbt (hbi.2 h.1))).2⟩
theorem drop58 (L : List S58) (i : Nat) (h : i < L.length) : wrt (L.drop i) = fb58 (rd_T58 L (i : Int)) ++ wrt (L.drop (i + 1)) := by
  rw [List.drop_eq_getElem_cons h, wrt_cons, rd58 L i h]
theorem write58_l1 (L : List S58) (hn : L.length ≤ 2000) (hs : ∀ j, j < L.length → fr58 (rd_T58 L ((j : Nat) : Int))) : ∀ (d i k : Nat) (x : List Int), i + d = L.length → d + 1300 < k → x.length ≤ 1200 →
    frame_Write.l1 k x L (L.length : Int) (i : Int) = some (FrP.told (x ++ wrt (L.drop i))) := by
  intro d
  induction d with
  | zero =>
    intro i k x hi hk hx
    obtain ⟨k, rfl⟩ : ∃ m, k = m + 1 := ⟨k - 1, by omega⟩
    simp only [frame_Write.l1]
    rw [if_neg (by omega), List.drop_of_length_le (by omega), show wrt [] = [] from rfl, List.append_nil]
    unfold FrP.told
    rw [if_neg (by omega)]
  | succ d ih =>
    intro i k x hi hk hx
    obtain ⟨k, rfl⟩ : ∃ m, k = m + 1 := ⟨k - 1, by omega⟩
    have hi' : i < L.length := by omega
    have hr := hs i hi'
    have hlen := fbytes_len _ _ _ _ _ _ hr
    simp only [frame_Write.l1]
    rw [if_pos (show (i : Int) < (L.length : Int) by omega), if_pos (show (0 : Int) ≤ (i : Int) by omega), if_pos (show (i : Int) < (L.length : Int) by omega), bytes_frame _ _ _ _ _ _ hr k (by omega), drop58 L i hi']
    simp only [Option.bind_some]
    rw [if_pos (show x.length + (fbytes (rd_T58 L (i : Int)).f0 (rd_T58 L (i : Int)).f1 (rd_T58 L (i : Int)).f2 (rd_T58 L (i : Int)).f3 (rd_T58 L (i : Int)).f4 (rd_T58 L (i : Int)).f5).length < 140737488355328 by omega), w1 i (by omega)]
    by_cases hq : ((x ++ fb58 (rd_T58 L (i : Int))).length : Int) > 1200
    · have hq' : ((x ++ (fb58 (rd_T58 L (i : Int)) ++ wrt (L.drop (i + 1)))).length : Int) > 1200 := by simp only [List.length_append] at hq ⊢; omega
      unfold FrP.told
      rw [if_pos hq']
      unfold fb58 at hq
      rw [if_pos hq]
    · have := ih (i + 1) k (x ++ fb58 (rd_T58 L (i : Int))) (by omega) (by omega) (by omega)
      rw [List.append_assoc] at this
      unfold fb58 at hq this ⊢
      rw [if_neg hq]
      exact this
theorem write58 (L : List S58) (hn : L.length ≤ 2000) (hs : ∀ j, j < L.length → (rd_T58 L ((j : Nat) : Int)).f2.length ≤ 100) (k : Nat) (hk : 8000 < k) :
    ∃ x e, frame_Write.f k L = some (x, e) ∧ ((e ≠ 0 ∧ x = [] ∧ ¬ GoodL L) ∨ (e = 0 ∧ GoodL L ∧ x = wrt L)) := by
  unfold frame_Write.f
  by_cases h0 : (L.length : Int) = 0
  · rw [if_pos h0]
    refine ⟨_, _, rfl, .inl ⟨by decide, rfl, fun h => h.1 (List.length_eq_zero_iff.1 (by omega))⟩⟩
  rw [if_neg h0]
  have all : (∀ j, 0 ≤ j → j < L.length → okF L j) ↔ ((∀ f ∈ L, fr58 f) ∧ noAdj L) := by
    constructor
    · intro h
      refine ⟨fun f hf => ?_, noAdj_of L (fun j hj hl => (h j (by omega) hl).2 hj)⟩
      obtain ⟨i, hi, rfl⟩ := List.getElem_of_mem hf
      rw [← rd58 L i hi]
      exact (h i (by omega) hi).1
    · rintro ⟨h1, h2⟩ j _ hl
      exact ⟨by rw [rd58 L j hl]; exact h1 _ (List.getElem_mem hl), fun hj => noAdj_at L h2 j hj hl⟩
  rcases write58_l0 L hn hs L.length 0 k (by omega) (by omega) with ⟨h1, h2⟩ | ⟨h1, h2⟩
  · exact ⟨_, _, h1, .inl ⟨by decide, rfl, fun h => h2 (all.2 ⟨h.2.1, h.2.2.1⟩)⟩⟩
  · have a := write58_l1 L hn (fun j hj => (h1 j (by omega) hj).1) L.length 0 (k - L.length - 1) [] (by omega) (by omega) (by simp)
    have e := h2.trans a
    rw [List.drop_zero, List.nil_append] at e
    have hh := all.1 h1
    refine ⟨(FrP.told (wrt L)).1, (FrP.told (wrt L)).2, e, ?_⟩
    unfold FrP.told
    by_cases hq : ((wrt L).length : Int) > 1200
    · rw [if_pos hq]; exact .inl ⟨by decide, rfl, fun h => by have := h.2.2.2; omega⟩
    · rw [if_neg hq]; exact .inr ⟨rfl, ⟨fun e => h0 (by rw [e]; rfl), hh.1, hh.2, by omega⟩, rfl⟩
theorem tbytes_bytes (h : Int) : Bytes (tbytes h) := by
  intro x hx
  unfold tbytes at hx
  split at hx
  · simp at hx
  · simp at hx; omega
theorem ackFrom_bytes (l : List S103) : ∀ d i, Bytes (ackFrom l i d) := by
  intro d
  induction d with
  | zero => intro i x hx; simp [ackFrom] at hx
  | succ d ih =>
    intro i x hx
    simp only [ackFrom, List.mem_append] at hx
    rcases hx with (hx | hx) | hx
    · split at hx
      · exact vbytes_bytes _ x hx
      · simp at hx
    · exact vbytes_bytes _ x hx
    · exact ih _ x hx
theorem fb_bytes (f : S58) (hf : fr58 f) (h4 : Bytes f.f4) : Bytes (fb58 f) := by
  have hk : 0 ≤ f.f0 ∧ f.f0 ≤ 255 := by
    unfold fr58 fright at hf
    omega
  intro x hx
  unfold fb58 fbytes at hx
  by_cases h0 : f.f0 = 0
  · rw [if_pos h0] at hx
    have := List.eq_of_mem_replicate hx
    omega
  rw [if_neg h0] at hx
  by_cases h2 : f.f0 = 2
  · rw [if_pos h2] at hx
    simp only [List.mem_append, List.mem_singleton] at hx
    rcases hx with ((hx | hx) | hx) | hx
    · omega
    · exact vbytes_bytes _ x hx
    · exact vbytes_bytes _ x hx
    · exact ackFrom_bytes _ _ _ x hx
  rw [if_neg h2] at hx
  by_cases h6 : f.f0 = 6
  · rw [if_pos h6] at hx
    simp only [List.mem_append, List.mem_singleton] at hx
    rcases hx with ((hx | hx) | hx) | hx
    · omega
    · exact vbytes_bytes _ x hx
    · exact vbytes_bytes _ x hx
    · exact h4 x hx
  rw [if_neg h6] at hx
  by_cases h7 : f.f0 = 7
  · rw [if_pos h7] at hx
    simp only [List.mem_append, List.mem_singleton] at hx
    rcases hx with hx | hx
    · omega
    · exact tbytes_bytes _ x hx
  rw [if_neg h7] at hx
  by_cases h8 : f.f0 = 8
  · rw [if_pos h8] at hx
    simp only [List.mem_append, List.mem_singleton] at hx
    rcases hx with (hx | hx) | hx
    · omega
    · exact vbytes_bytes _ x hx
    · exact tbytes_bytes _ x hx
  rw [if_neg h8] at hx
  by_cases h28 : f.f0 = 28
  · rw [if_pos h28] at hx
    simp only [List.mem_append, List.mem_singleton] at hx
    rcases hx with hx | hx
    · omega
    · exact vbytes_bytes _ x hx
  rw [if_neg h28] at hx
  simp at hx
  omega
theorem spans2 : spansOK [⟨7, 7⟩, ⟨3, 5⟩] := by
  refine ⟨fun j hj => ?_, by simp, by simp⟩
  have : j = 0 ∨ j = 1 := by simp at hj; omega
  rcases this with rfl | rfl
  · simp [okAt, rd_T103]
  · simp [okAt, rd_T103]
theorem awake06 (k : Nat) (hk : 9000 < k) : shibbolethlaw06_awake.f k = some true := by
  have hg : GoodL [(⟨2, 0, [⟨7, 7⟩, ⟨3, 5⟩], 0, [], 0⟩ : S58)] := by
    refine ⟨by simp, fun f hf => ?_, ⟨fun h => absurd h (by decide), trivial⟩, by simp [wrt, fb58, fbytes, ackFrom, vbytes, rd_T103]⟩
    simp at hf
    subst hf
    exact .inr (.inr (.inl ⟨rfl, spans2, rfl, rfl, rfl, rfl⟩))
  obtain ⟨x, e, h1, h2⟩ := write58 [(⟨2, 0, [⟨7, 7⟩, ⟨3, 5⟩], 0, [], 0⟩ : S58)] (by simp) (fun j hj => by
    have : j = 0 := by simp at hj; omega
    subst this; simp [rd_T58]) k (by omega)
  rcases h2 with ⟨_, _, h⟩ | ⟨rfl, _, rfl⟩
  · exact absurd hg h
  · have ht : wrt [(⟨2, 0, [⟨7, 7⟩, ⟨3, 5⟩], 0, [], 0⟩ : S58)] = [2, 7, 1, 0, 0, 2] := by
      simp [wrt, fb58, fbytes, ackFrom, vbytes, rd_T103]
    rw [ht] at h1
    unfold shibbolethlaw06_awake.f
    rw [h1]
    simp only [Option.bind_some, if_true]
    rw [fsame_f _ (by simp) _ (by simp; omega)]
    rfl
end Go.Proofs.YtbcleckapamicaaDoor.FdQ
namespace Go.Proofs.YtbcleckapamicaaDoor.Pure
open Go.RowKit Go.Proofs.YtbcleckapamicaaDoor.QFr Go.Proofs.YtbcleckapamicaaDoor.QFd Go.Proofs.YtbcleckapamicaaDoor.Vn Go.Proofs.YtbcleckapamicaaDoor.FrP Go.Proofs.YtbcleckapamicaaDoor.FdP Go.Proofs.YtbcleckapamicaaDoor.FdQ Go.Proofs.YtbcleckapamicaaDoorW.PrintWords
open Go.Proofs.YtbcleckapamicaaDoor.Fd (rnum rbyt rtrm padF gapF spanF ackF ackR body fr58 next frames fread frame_Read.f)
set_option linter.unusedVariables false
set_option linter.unusedSimpArgs false
theorem told_l (s : List S102) (hl : s.length ≤ 100) (c0 c1 c3 c5 d0 d1 d3 d5 : Int) (c4 d4 : List Int) : ∀ (d i k : Nat), i + d = s.length → d < k →
    shibbolethlaw06_told.l0 k (i : Int) c0 c1 (cv s) c3 c4 c5 d0 d1 s d3 d4 d5 = some true := by
  intro d
  induction d with
  | zero =>
    intro i k hi hk
    obtain ⟨k, rfl⟩ : ∃ m, k = m + 1 := ⟨k - 1, by omega⟩
    simp only [shibbolethlaw06_told.l0]
    rw [if_neg (by omega)]
  | succ d ih =>
    intro i k hi hk
    obtain ⟨k, rfl⟩ : ∃ m, k = m + 1 := ⟨k - 1, by omega⟩
    have hc := cv_len s
    have e := rd_cv s i (by omega)
    simp only [shibbolethlaw06_told.l0]
    rw [if_pos (by omega), if_pos (by omega), if_pos (by omega), e, if_pos rfl, if_pos rfl, w1 i (by omega)]
    exact ih (i + 1) k (by omega) (by omega)
theorem told_f (x : S62) (hl : x.f2.length ≤ 100) (h4 : x.f4.length ≤ 2000) (k : Nat) (hk : 3000 < k) : shibbolethlaw06_told.f k (cvF x).f0 (cvF x).f1 (cvF x).f2 (cvF x).f3 (cvF x).f4 (cvF x).f5 x.f0 x.f1 x.f2 x.f3 x.f4 x.f5 = some true := by
  obtain ⟨k, rfl⟩ : ∃ m, k = m + 1 := ⟨k - 1, by omega⟩
  unfold shibbolethlaw06_told.f
  have hc := cv_len x.f2
  simp only [cvF, if_true, fsame_f x.f4 (by omega) (k + 1) (by omega), Option.bind_some, hc, bne_self_eq_false]
  rw [shibbolethlaw06_told.j0, if_neg (by decide)]
  exact told_l x.f2 hl _ _ _ _ _ _ _ _ _ _ x.f2.length 0 k (by omega) (by omega)
theorem back_l (L : List S62) (hn : L.length ≤ 30) (hs : ∀ j, j < L.length → (rd_T62 L ((j : Nat) : Int)).f2.length ≤ 50 ∧ (rd_T62 L ((j : Nat) : Int)).f4.length ≤ 1100) : ∀ (d i k : Nat), i + d = L.length → d + 9100 < k →
    shibbolethlaw06_FrameBack.l0 k L (L.map cvF) (i : Int) = some true := by
  intro d
  induction d with
  | zero =>
    intro i k hi hk
    obtain ⟨k, rfl⟩ : ∃ m, k = m + 1 := ⟨k - 1, by omega⟩
    simp only [shibbolethlaw06_FrameBack.l0]
    rw [if_neg (by omega), awake06 k (by omega)]
    rfl
  | succ d ih =>
    intro i k hi hk
    obtain ⟨k, rfl⟩ : ∃ m, k = m + 1 := ⟨k - 1, by omega⟩
    have hm : (L.map cvF).length = L.length := by simp
    have hi' : i < L.length := by omega
    have hq := hs i hi'
    simp only [shibbolethlaw06_FrameBack.l0]
    rw [if_pos (by omega), if_pos (by omega), if_pos (by omega), rd_map L i hi', told_f _ (by omega) (by omega) k (by omega)]
    simp only [Option.bind_some, if_true]
    rw [w1 i (by omega)]
    exact ih (i + 1) k (by omega) (by omega)
theorem FrameBack : frameBackPrm.Pure := by
  intro L hL
  refine ⟨10000, ?_⟩
  unfold shibbolethlaw06_FrameBack.f shibbolethlaw06_light.f
  by_cases hn : (L.length : Int) > 30
  · rw [if_pos hn]
    simp
  rw [if_neg hn]
  obtain ⟨b, hb, hbi⟩ := light_l L (by omega) L.length 0 10000 (by omega) (by omega)
  have hb' : shibbolethlaw06_light.l0 10000 L 0 = some b := hb
  rw [hb']
  simp only [Option.bind_some]
  by_cases h : b = true
  rotate_left
  · rw [if_neg h]
  rw [if_pos h]
  have hs : ∀ j, j < L.length → (rd_T62 L ((j : Nat) : Int)).f2.length ≤ 50 ∧ (rd_T62 L ((j : Nat) : Int)).f4.length ≤ 1100 := fun j hj => hbi h j (by omega) hj
  have ha : shibbolethlaw06_all.f 10000 L = some (L.map cvF) := all_l L (by omega) hs L.length 0 10000 (by omega) (by omega)
  have hm : (L.map cvF).length = L.length := by simp
  obtain ⟨x, e, h1, h2⟩ := write58 (L.map cvF) (by omega) (fun j hj => by
    rw [rd_map L j (by omega)]
    have := (hs j (by omega)).1
    show (cv (rd_T62 L (j : Int)).f2).length ≤ 100
    rw [cv_len]
    omega) 10000 (by omega)
  rw [ha]
  simp only [Option.bind_some, h1, awake06 10000 (by omega)]
  rcases h2 with ⟨he, rfl, _⟩ | ⟨rfl, hg, rfl⟩
  · rw [if_neg he]
    rfl
  · rw [if_pos rfl, read_f _ (by have := hg.2.2.2; omega) (fun y hy => by
      obtain ⟨q, hq, hyq⟩ := List.mem_flatten.1 hy
      obtain ⟨f, hf, rfl⟩ := List.mem_map.1 hq
      refine fb_bytes f (hg.2.1 f hf) ?_ y hyq
      obtain ⟨s, hs1, rfl⟩ := List.mem_map.1 hf
      exact VaP.bytes_of_wf (hL.2 s hs1).2.2.2.2.1.2)]
    simp only [Option.bind_some]
    rw [fread_wrt hg]
    simp only [if_true, hm, bne_self_eq_false]
    rw [shibbolethlaw06_FrameBack.j0, if_neg (by decide)]
    exact back_l L (by omega) hs L.length 0 9999 (by omega) (by omega)
end Go.Proofs.YtbcleckapamicaaDoor.Pure
namespace Go.Proofs.YtbcleckapamicaaDoor.Tab
open Go.RowKit Go.Proofs.YtbcleckapamicaaDoor.Gv
set_option linter.unusedVariables false
def laid {H : Type} : List (String × DataW H) := [((Rows.frameBackRow.named).getD 0 default, Rows.laid_math_bits_deBruijn32tab), ((Rows.frameBackRow.named).getD 1 default, Rows.laid_math_bits_deBruijn64tab)]
theorem g64 : Tryd.prog.globalNamed ((Rows.frameBackRow.named).getD 1 default) = some 1 := by kernel_rfl
theorem ty64 : (Tryd.prog.globals[1]?).map (·.type) = some 146 := by kernel_rfl
theorem of_laid {W : World} (h : laidMet Tryd.prog laid W) : TB W := by
  have h2 : laidMet Tryd.prog [((Rows.frameBackRow.named).getD 1 default, Lib.tabData .u8 tab64)] W := h.tail
  have ht : Lib.TabIs Tryd.prog W ((Rows.frameBackRow.named).getD 1 default) .u8 tab64 := Lib.tabIs_of_head g64 ty64 Tryd.underlying146 Tryd.underlying5 (by kernel_rfl) (by kernel_rfl) h2
  exact ⟨fun i hi => ht.cell g64 i hi⟩
def tab32 : List Int := [0, 1, 28, 2, 29, 14, 24, 3, 30, 22, 20, 15, 25, 17, 4, 8, 31, 27, 13, 23, 21, 19, 16, 7, 26, 12, 18, 6, 11, 5, 10, 9]
noncomputable def laidWorld (os : Os) : World :=
  let w0 := World.holding Tryd.prog os ⟨#[], #[], []⟩
  { w0 with heap := (w0.heap.modify 0 fun
      | .cells _ t frozen => .cells (tab32.map fun z => Value.int .u8 z).toArray t frozen
      | o => o).modify 1 fun
      | .cells _ t frozen => .cells (tab64.map fun z => Value.int .u8 z).toArray t frozen
      | o => o }
set_option maxRecDepth 100000 in
theorem laidWorld_met (os : Os) (args : Array Value) : laidMet Tryd.prog laid ((laidWorld os).forCall (fun _ _ => 0) ⟨#[], args, []⟩).memory :=
  laidMet_of_run' 8 (by kernel_rfl) (by kernel_rfl)
end Go.Proofs.YtbcleckapamicaaDoor.Tab
