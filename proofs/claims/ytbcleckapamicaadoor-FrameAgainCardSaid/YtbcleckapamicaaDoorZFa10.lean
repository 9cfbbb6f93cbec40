/- A part of the proof of the law FrameAgain: TkP, FdP, FdQ, PureFrameAgain, Tab. -/
import Derived.Test.YtbcleckapamicaaDoorZFa09
import Derived.Test.YtbcleckapamicaaDoorZFa08
import Derived.Test.YtbcleckapamicaaDoorRows
import Derived.Test.YtbcleckapamicaaDoorZFa02
import Derived.LaidLaws
import Derived.Lib.LaidTab
import Derived.Stop.LaidErr
namespace Go.Proofs.YtbcleckapamicaaDoor.TkP
open Go.RowKit Go.Proofs.YtbcleckapamicaaDoor.QVa Go.Proofs.YtbcleckapamicaaDoor.Vn Go.Proofs.YtbcleckapamicaaDoor.VaP Go.Proofs.YtbcleckapamicaaDoorW.PrintWords
open Go.Proofs.YtbcleckapamicaaDoor.Gv (bits_TrailingZeros.f slices_Clone_byte_byte.f varint_Size.f varint_Read.f)
set_option linter.unusedVariables false
set_option linter.unusedSimpArgs false
theorem vread_ok (l : List Int) (n s : Int) (h : vread l = (n, s, 0)) : 0 ≤ n ∧ n ≤ 4611686018427387903 ∧ 1 ≤ s ∧ s ≤ l.length ∧ s ≤ 8 := by
  unfold vread at h
  by_cases h0 : l.length = 0
  · rw [if_pos h0] at h; simp at h
  · rw [if_neg h0] at h
    by_cases h1 : l.length < 2 ^ (rd l 0 / 64).toNat
    · rw [if_pos h1] at h; simp at h
    · rw [if_neg h1] at h
      have hq : 1 ≤ (2 ^ (rd l 0 / 64).toNat : Nat) := Nat.one_le_two_pow
      generalize (2 ^ (rd l 0 / 64).toNat : Nat) = q at h h1 hq
      generalize num (rd l 0 % 64) ((l.take q).drop 1) = m at h
      by_cases h2 : vsize m = (q : Int)
      · rw [if_pos h2] at h
        simp only [Prod.mk.injEq, and_true] at h
        obtain ⟨rfl, rfl⟩ := h
        have hv := vsize_cases m
        omega
      · rw [if_neg h2] at h; simp at h
end Go.Proofs.YtbcleckapamicaaDoor.TkP
namespace Go.Proofs.YtbcleckapamicaaDoor.FdP
open Go.RowKit Go.Proofs.YtbcleckapamicaaDoorW.PrintWords Go.Proofs.YtbcleckapamicaaDoorW.PrintLast Go.Proofs.YtbcleckapamicaaDoorW.PrintMore Go.Proofs.YtbcleckapamicaaDoor.QFr Go.Proofs.YtbcleckapamicaaDoor.Vn Go.Proofs.YtbcleckapamicaaDoor.FrP
open Go.Proofs.YtbcleckapamicaaDoor.Gf (tbytes)
open Go.Proofs.YtbcleckapamicaaDoor.Fd (num4 rnum rbyt rtrm padF gapF spanF ackF ackR body fr58 next frames)
set_option linter.unusedVariables false
set_option linter.unusedSimpArgs false
def fb58 (f : S58) : List Int := fbytes f.f0 f.f1 f.f2 f.f3 f.f4 f.f5
theorem vread_canon {l : List Int} (hB : Bytes l) {n s : Int} (h : vread l = (n, s, 0)) : l = vbytes n ++ l.drop s.toNat := by
  unfold vread at h
  by_cases h0 : l.length = 0
  · rw [if_pos h0] at h; simp at h
  rw [if_neg h0] at h
  have hb0 := bytes_rd hB 0 (by omega)
  by_cases h1 : l.length < 2 ^ (rd l 0 / 64).toNat
  · rw [if_pos h1] at h; simp at h
  rw [if_neg h1] at h
  obtain ⟨q, hq⟩ : ∃ q : Nat, (rd l 0 / 64).toNat = q := ⟨_, rfl⟩
  rw [hq] at h h1
  have hz : ((0 : Nat) : Int) = 0 := rfl
  rw [hz] at hb0
  have hq4 : q < 4 := by omega
  by_cases h2 : vsize (num (rd l 0 % 64) ((l.take (2 ^ q)).drop 1)) = ((2 ^ q : Nat) : Int)
  rotate_left
  · rw [if_neg h2] at h; simp at h
  rw [if_pos h2] at h
  simp only [Prod.mk.injEq, and_true] at h
  obtain ⟨rfl, rfl⟩ := h
  have hs := vsize_cases (num (rd l 0 % 64) ((l.take (2 ^ q)).drop 1))
  rw [h2] at hs
  match q, hq4 with
  | 0, _ =>
    match l, h0 with
    | a :: t, _ =>
      have ha : rd (a :: t) 0 = a := rfl
      rw [ha] at hs hb0 hq ⊢
      simp only [num, Nat.pow_zero, List.take_succ_cons, List.take_zero, List.drop_succ_cons, List.drop_zero, List.foldl_nil, Int.cast_ofNat_Int, Int.toNat_one] at hs ⊢
      rcases hs with ⟨x, y, z⟩ | ⟨x, y, z⟩ | ⟨x, y, z⟩ | ⟨x, y, z⟩ | ⟨x, y, z⟩ <;> first | (exfalso; omega) | skip
      rw [z]
      simp
      omega
  | 1, _ =>
    match l, h1 with
    | [], h1 => simp at h0
    | [a], h1 => simp at h1
    | a :: b :: t, _ =>
      have ha : rd (a :: b :: t) 0 = a := rfl
      rw [ha] at hs hb0 hq ⊢
      have hb := hB b (by simp)
      simp only [num, Nat.reducePow, List.take_succ_cons, List.take_zero, List.drop_succ_cons, List.drop_zero, List.foldl_nil, List.foldl_cons, Int.toNat_natCast] at hs ⊢
      rcases hs with ⟨x, y, z⟩ | ⟨x, y, z⟩ | ⟨x, y, z⟩ | ⟨x, y, z⟩ | ⟨x, y, z⟩ <;> first | (exfalso; omega) | skip
      rw [z]
      simp
      omega
  | 2, _ =>
    match l, h1 with
    | [], h1 => simp at h0
    | [a], h1 => simp at h1
    | [a, b], h1 => simp at h1
    | [a, b, c], h1 => simp at h1
    | a :: b :: c :: d :: t, _ =>
      have ha : rd (a :: b :: c :: d :: t) 0 = a := rfl
      rw [ha] at hs hb0 hq ⊢
      have hb := hB b (by simp)
      have hc := hB c (by simp)
      have hd := hB d (by simp)
      simp only [num, Nat.reducePow, List.take_succ_cons, List.take_zero, List.drop_succ_cons, List.drop_zero, List.foldl_nil, List.foldl_cons, Int.toNat_natCast] at hs ⊢
      rcases hs with ⟨x, y, z⟩ | ⟨x, y, z⟩ | ⟨x, y, z⟩ | ⟨x, y, z⟩ | ⟨x, y, z⟩ <;> first | (exfalso; omega) | skip
      rw [z]
      simp
      omega
  | 3, _ =>
    match l, h1 with
    | [], h1 => simp at h0
    | [a], h1 => simp at h1
    | [a, b], h1 => simp at h1
    | [a, b, c], h1 => simp at h1
    | [a, b, c, d], h1 => simp at h1
    | [a, b, c, d, e], h1 => simp at h1
    | [a, b, c, d, e, f], h1 => simp at h1
    | [a, b, c, d, e, f, g], h1 => simp at h1
    | a :: b :: c :: d :: e :: f :: g :: i :: t, _ =>
      have ha : rd (a :: b :: c :: d :: e :: f :: g :: i :: t) 0 = a := rfl
      rw [ha] at hs hb0 hq ⊢
      have hb := hB b (by simp)
      have hc := hB c (by simp)
      have hd := hB d (by simp)
      have he := hB e (by simp)
      have hf := hB f (by simp)
      have hg := hB g (by simp)
      have hi := hB i (by simp)
      simp only [num, Nat.reducePow, List.take_succ_cons, List.take_zero, List.drop_succ_cons, List.drop_zero, List.foldl_nil, List.foldl_cons, Int.toNat_natCast] at hs ⊢
      rcases hs with ⟨x, y, z⟩ | ⟨x, y, z⟩ | ⟨x, y, z⟩ | ⟨x, y, z⟩ | ⟨x, y, z⟩ <;> first | (exfalso; omega) | skip
      rw [z]
      simp
      omega
theorem rnum_inv {l r : List Int} (hB : Bytes l) {n : Int} (h : rnum l = some (n, r)) : 0 ≤ n ∧ n ≤ 4611686018427387903 ∧ l = vbytes n ++ r := by
  unfold rnum at h
  split at h
  · rename_i h0
    injection h with h
    injection h with h1 h2
    have hv : vread l = (n, (vread l).2.1, 0) := by rw [← h1, ← h0]
    have a := TkP.vread_ok l _ _ hv
    refine ⟨a.1, a.2.1, ?_⟩
    rw [← h2]
    exact vread_canon hB hv
  · cases h
theorem rnum_len {l r : List Int} {n : Int} (h : rnum l = some (n, r)) : r.length ≤ l.length ∧ (∀ x ∈ r, x ∈ l) := by
  unfold rnum at h
  split at h
  · injection h with h
    injection h with h1 h2
    rw [← h2]
    exact ⟨by simp, fun x hx => List.mem_of_mem_drop hx⟩
  · cases h
theorem rbyt_inv {l d r : List Int} {n : Int} (h0 : 0 ≤ n) (h : rbyt l n = some (d, r)) : l = d ++ r ∧ (d.length : Int) = n := by
  unfold rbyt at h
  split at h
  · injection h with h
    injection h with h1 h2
    rw [← h1, ← h2]
    refine ⟨(List.take_append_drop _ _).symm, ?_⟩
    simp
    omega
  · cases h
theorem rtrm_inv {l r : List Int} (hB : Bytes l) {h : Int} (hh : rtrm l = some (h, r)) : 1 ≤ h ∧ h ≤ 65536 ∧ l = tbytes h ++ r := by
  unfold rtrm at hh
  split at hh
  · rename_i q
    injection hh with hh
    injection hh with e1 e2
    match l, q.1 with
    | a :: b :: c :: d :: t, _ =>
      have ha := hB a (by simp)
      have hb := hB b (by simp)
      have hc := hB c (by simp)
      have hd := hB d (by simp)
      have q2 := q.2
      simp only [List.take_succ_cons, List.take_zero, num4, Fd.upto] at e1 q2
      simp only [List.drop_succ_cons, List.drop_zero] at e2
      subst e2
      refine ⟨by omega, by omega, ?_⟩
      unfold tbytes
      rw [if_neg (by omega)]
      have x1 : h / 16777216 % 256 = a := by omega
      have x2 : h / 65536 % 256 = b := by omega
      have x3 : h / 256 % 256 = c := by omega
      have x4 : h % 256 = d := by omega
      rw [x1, x2, x3, x4]
      rfl
  · cases hh
theorem padF_inv : ∀ l : List Int, l = List.replicate (padF l).1 0 ++ (padF l).2 ∧ (padF l).2.head? ≠ some 0 := by
  intro l
  induction l with
  | nil => exact ⟨rfl, by simp [padF]⟩
  | cons x t ih =>
    rw [padF]
    by_cases hx : x = 0
    · rw [if_pos hx]
      refine ⟨?_, ih.2⟩
      rw [List.replicate_succ, List.cons_append, ← ih.1, hx]
    · rw [if_neg hx]
      refine ⟨rfl, ?_⟩
      simp
      exact hx
def ackB : Int → List S103 → List Int
  | _, [] => []
  | p, s :: t => vbytes (p - s.f1 - 2) ++ vbytes (s.f1 - s.f0) ++ ackB s.f0 t
def okB : Int → List S103 → Prop
  | _, [] => True
  | p, s :: t => 0 ≤ s.f0 ∧ s.f0 ≤ s.f1 ∧ s.f1 ≤ 4611686018427387903 ∧ s.f1 ≤ p - 2 ∧ okB s.f0 t
theorem gapF_inv {tp : Int} {l : List Int} (hB : Bytes l) {g : Int × List Int} (h : gapF tp l = some g) : ∃ n, 0 ≤ n ∧ n ≤ 4611686018427387903 ∧ n + 2 ≤ tp ∧ g.1 = tp - (n + 2) ∧ l = vbytes n ++ g.2 := by
  unfold gapF at h
  obtain ⟨⟨n, r⟩, hr, h⟩ := Option.bind_eq_some_iff.1 h
  have a := rnum_inv hB hr
  simp only [] at h
  split at h
  · injection h with h; subst h
    exact ⟨n, a.1, a.2.1, by assumption, rfl, a.2.2⟩
  · cases h
theorem spanF_inv {tp : Int} {l : List Int} (hB : Bytes l) {g : S103 × List Int} (h : spanF tp l = some g) : ∃ n, 0 ≤ n ∧ n ≤ 4611686018427387903 ∧ n ≤ tp ∧ g.1 = ⟨tp - n, tp⟩ ∧ l = vbytes n ++ g.2 := by
  unfold spanF at h
  obtain ⟨⟨n, r⟩, hr, h⟩ := Option.bind_eq_some_iff.1 h
  have a := rnum_inv hB hr
  simp only [] at h
  split at h
  · injection h with h; subst h
    exact ⟨n, a.1, a.2.1, by assumption, rfl, a.2.2⟩
  · cases h
theorem ackF_inv : ∀ (d : Nat) (p : Int) (l : List Int) (s : List S103) (r : List Int), Bytes l → p ≤ 4611686018427387903 → ackF d p l = some (s, r) → s.length = d ∧ okB p s ∧ l = ackB p s ++ r := by
  intro d
  induction d with
  | zero => intro p l s r _ _ h; injection h with h; injection h with h1 h2; subst h1 h2; exact ⟨rfl, trivial, rfl⟩
  | succ d ih =>
    intro p l s r hB hp h
    rw [ackF] at h
    obtain ⟨g, hg, h⟩ := Option.bind_eq_some_iff.1 h
    obtain ⟨sp, hs, h⟩ := Option.bind_eq_some_iff.1 h
    obtain ⟨⟨t, r'⟩, ht, h⟩ := Option.map_eq_some_iff.1 h
    injection h with h1 h2
    subst h1 h2
    obtain ⟨n, n0, n1, n2, n3, e1⟩ := gapF_inv hB hg
    have hB1 : Bytes g.2 := fun x hx => hB x (by rw [e1]; simp [hx])
    obtain ⟨m, m0, m1, m2, m3, e2⟩ := spanF_inv hB1 hs
    have hB2 : Bytes sp.2 := fun x hx => hB1 x (by rw [e2]; simp [hx])
    rw [m3] at ht ⊢
    have a := ih _ _ _ _ hB2 (by simp only []; omega) ht
    refine ⟨by simp [a.1], ⟨by simp only []; omega, by simp only []; omega, by simp only []; omega, by simp only []; omega, a.2.1⟩, ?_⟩
    have x1 : p - g.1 - 2 = n := by omega
    have x2 : g.1 - (g.1 - m) = m := by omega
    simp only [ackB, x1, x2, List.append_assoc, ← a.2.2, ← e2, ← e1]
theorem rd_drop (l : List S103) (i : Nat) {s : S103} {t : List S103} (h : l.drop i = s :: t) : rd_T103 l (i : Int) = s ∧ l.drop (i + 1) = t ∧ i < l.length := by
  have hi : i < l.length := by
    rcases Nat.lt_or_ge i l.length with q | q
    · exact q
    · rw [List.drop_of_length_le q] at h; cases h
  rw [List.drop_eq_getElem_cons hi] at h
  injection h with h1 h2
  exact ⟨by simp [rd_T103, List.getD_eq_getElem?_getD, List.getElem?_eq_getElem hi, h1], h2, hi⟩
theorem ackFrom_list (l : List S103) : ∀ (t : List S103) (i : Nat), l.drop (i + 1) = t → ackFrom l (i + 1) t.length = ackB (rd_T103 l (i : Int)).f0 t := by
  intro t
  induction t with
  | nil => intro i _; rfl
  | cons s t ih =>
    intro i h
    obtain ⟨e1, e2, _⟩ := rd_drop l (i + 1) h
    rw [List.length_cons, ackFrom, if_pos (by omega), show i + 1 - 1 = i from rfl, ih (i + 1) e2, e1]
    rfl
theorem ackFrom_cons (s : S103) (t : List S103) : ackFrom (s :: t) 0 (s :: t).length = vbytes (s.f1 - s.f0) ++ ackB s.f0 t := by
  rw [List.length_cons, ackFrom, if_neg (by omega), ackFrom_list (s :: t) t 0 rfl]
  rfl
theorem okB_iff (l : List S103) : ∀ (t : List S103) (i : Nat), l.drop (i + 1) = t → ((∀ j, i < j → j < l.length → okAt l j) ↔ okB (rd_T103 l (i : Int)).f0 t) := by
  intro t
  induction t with
  | nil =>
    intro i h
    have : l.length ≤ i + 1 := by rcases Nat.lt_or_ge (i + 1) l.length with q | q
                                  · rw [List.drop_eq_getElem_cons q] at h; cases h
                                  · exact q
    exact ⟨fun _ => trivial, fun _ j h1 h2 => by omega⟩
  | cons s t ih =>
    intro i h
    obtain ⟨e1, e2, e3⟩ := rd_drop l (i + 1) h
    have hi := ih (i + 1) e2
    rw [e1] at hi
    constructor
    · intro hh
      have a := hh (i + 1) (by omega) e3
      have b := a.2.2.2 (by omega)
      rw [show i + 1 - 1 = i from rfl] at b
      unfold okAt at a
      rw [e1] at a b
      exact ⟨a.1, a.2.1, a.2.2.1, b, hi.1 (fun j h1 h2 => hh j (by omega) h2)⟩
    · rintro ⟨a1, a2, a3, a4, a5⟩ j h1 h2
      rcases Nat.lt_or_ge (i + 1) j with q | q
      · exact hi.2 a5 j q h2
      · obtain rfl : j = i + 1 := by omega
        unfold okAt
        rw [e1, show i + 1 - 1 = i from rfl]
        exact ⟨a1, a2, a3, fun _ => a4⟩
theorem spansOK_cons (s : S103) (t : List S103) : spansOK (s :: t) ↔ (0 ≤ s.f0 ∧ s.f0 ≤ s.f1 ∧ s.f1 ≤ 4611686018427387903) ∧ okB s.f0 t ∧ t.length < 32 := by
  have h := okB_iff (s :: t) t 0 rfl
  have e : rd_T103 (s :: t) ((0 : Nat) : Int) = s := rfl
  rw [e] at h
  unfold spansOK
  constructor
  · rintro ⟨a, _, c⟩
    have a0 := a 0 (by simp)
    unfold okAt at a0
    rw [e] at a0
    exact ⟨⟨a0.1, a0.2.1, a0.2.2.1⟩, h.1 (fun j _ hj => a j hj), by simp at c; omega⟩
  · rintro ⟨a, b, c⟩
    refine ⟨fun j hj => ?_, by simp, by simp; omega⟩
    rcases Nat.eq_zero_or_pos j with rfl | q
    · unfold okAt; rw [e]; exact ⟨a.1, a.2.1, a.2.2, fun q => by omega⟩
    · exact h.2 b j q hj
def ackW (s : S103) (t : List S103) : List Int := vbytes s.f1 ++ vbytes (t.length : Int) ++ (vbytes (s.f1 - s.f0) ++ ackB s.f0 t)
theorem fb_ack (a1 a3 a5 : Int) (l4 : List Int) (s : S103) (t : List S103) : fbytes 2 a1 (s :: t) a3 l4 a5 = 2 :: ackW s t := by
  unfold fbytes ackW
  rw [if_neg (by decide), if_pos rfl, ackFrom_cons]
  have e : (((s :: t).length : Nat) : Int) - 1 = (t.length : Int) := by simp
  rw [e]
  have e2 : rd_T103 (s :: t) 0 = s := rfl
  rw [e2]
  simp
theorem ackR_inv {l r : List Int} {S : List S103} (hB : Bytes l) (h : ackR l = some (S, r)) : ∃ s t, S = s :: t ∧ l = ackW s t ++ r ∧ spansOK (s :: t) := by
  unfold ackR at h
  obtain ⟨⟨a, l1⟩, ha, h⟩ := Option.bind_eq_some_iff.1 h
  obtain ⟨⟨m, l2⟩, hm, h⟩ := Option.bind_eq_some_iff.1 h
  obtain ⟨a0, a1, e1⟩ := rnum_inv hB ha
  have hB1 : Bytes l1 := fun x hx => hB x (by rw [e1]; simp [hx])
  obtain ⟨m0, m1, e2⟩ := rnum_inv hB1 hm
  have hB2 : Bytes l2 := fun x hx => hB1 x (by rw [e2]; simp [hx])
  simp only [] at h
  split at h
  · rename_i m32
    obtain ⟨sp, hs, h⟩ := Option.bind_eq_some_iff.1 h
    obtain ⟨⟨t, r'⟩, ht, h⟩ := Option.map_eq_some_iff.1 h
    injection h with h1 h2
    subst h1 h2
    obtain ⟨n, n0, n1, n2, n3, e3⟩ := spanF_inv hB2 hs
    have hB3 : Bytes sp.2 := fun x hx => hB2 x (by rw [e3]; simp [hx])
    rw [n3] at ht
    have q := ackF_inv _ _ _ _ _ hB3 (by simp only []; omega) ht
    refine ⟨sp.1, t, rfl, ?_, (spansOK_cons _ _).2 ?_⟩
    · unfold ackW
      rw [n3]
      simp only []
      have x : ((t.length : Nat) : Int) = m := by rw [q.1]; omega
      rw [x, show a - (a - n) = n from by omega]
      simp only [List.append_assoc, ← q.2.2, ← e3, ← e2, ← e1]
    · rw [n3]
      exact ⟨⟨by simp only []; omega, by simp only []; omega, by simp only []; omega⟩, q.2.1, by rw [q.1]; omega⟩
  · cases h
set_option maxHeartbeats 1000000 in
theorem next_inv {l r : List Int} {f : S58} (hB : Bytes l) (h : next l = some (f, r)) : fr58 f ∧ l = fb58 f ++ r ∧ (f.f0 = 0 → r.head? ≠ some 0) := by
  match l, h with
  | [], h => cases h
  | k :: t, h =>
    rw [next] at h
    obtain ⟨⟨g, q⟩, hb, h⟩ := Option.bind_eq_some_iff.1 h
    simp only [] at h
    split at h
    rotate_left
    · cases h
    rename_i hf
    injection h with h
    injection h with h1 h2
    subst h1 h2
    refine ⟨hf, ?_⟩
    have hBt : Bytes t := fun x hx => hB x (by simp [hx])
    unfold body at hb
    unfold fb58
    by_cases h0 : k = 0
    · rw [if_pos h0] at hb
      injection hb with hb
      injection hb with e1 e2
      subst e1 e2
      have a := padF_inv t
      refine ⟨?_, fun _ => a.2⟩
      unfold fbytes
      rw [if_pos rfl]
      simp only []
      rw [show (((padF t).1 : Int) + 1).toNat = (padF t).1 + 1 from by omega, List.replicate_succ, List.cons_append, ← a.1, h0]
    rw [if_neg h0] at hb
    by_cases h1 : k = 1
    · rw [if_pos h1] at hb
      injection hb with hb
      injection hb with e1 e2
      subst e1 e2
      exact ⟨by rw [h1]; rfl, fun e => by cases e⟩
    rw [if_neg h1] at hb
    by_cases h30 : k = 30
    · rw [if_pos h30] at hb
      injection hb with hb
      injection hb with e1 e2
      subst e1 e2
      exact ⟨by rw [h30]; rfl, fun e => by cases e⟩
    rw [if_neg h30] at hb
    by_cases h2 : k = 2
    · rw [if_pos h2] at hb
      obtain ⟨⟨S, q'⟩, ha, hb⟩ := Option.map_eq_some_iff.1 hb
      injection hb with e1 e2
      subst e1 e2
      obtain ⟨s, u, rfl, e, _⟩ := ackR_inv hBt ha
      exact ⟨by rw [h2, fb_ack, e]; rfl, fun e => by cases e⟩
    rw [if_neg h2] at hb
    by_cases h6 : k = 6
    · rw [if_pos h6] at hb
      obtain ⟨⟨a, l1⟩, ha, hb⟩ := Option.bind_eq_some_iff.1 hb
      obtain ⟨⟨n, l3⟩, hn, hb⟩ := Option.bind_eq_some_iff.1 hb
      obtain ⟨⟨d, q'⟩, hd, hb⟩ := Option.map_eq_some_iff.1 hb
      injection hb with e1 e2
      subst e1 e2
      obtain ⟨a0, a1, x1⟩ := rnum_inv hBt ha
      have hB1 : Bytes l1 := fun x hx => hBt x (by rw [x1]; simp [hx])
      obtain ⟨n0, n1, x2⟩ := rnum_inv hB1 hn
      obtain ⟨x3, x4⟩ := rbyt_inv n0 hd
      simp only [] at x3 x4
      refine ⟨?_, fun e => by cases e⟩
      dsimp only
      unfold fbytes
      rw [if_neg (by decide), if_neg (by decide), if_pos rfl]
      rw [x4, h6, x1, x2, x3]
      simp
    rw [if_neg h6] at hb
    by_cases h7 : k = 7
    · rw [if_pos h7] at hb
      obtain ⟨⟨a, l1⟩, ha, hb⟩ := Option.map_eq_some_iff.1 hb
      injection hb with e1 e2
      subst e1 e2
      obtain ⟨a0, a1, x1⟩ := rtrm_inv hBt ha
      refine ⟨?_, fun e => by cases e⟩
      dsimp only
      unfold fbytes
      rw [if_neg (by decide), if_neg (by decide), if_neg (by decide), if_pos rfl]
      rw [h7, x1]
      simp
    rw [if_neg h7] at hb
    by_cases h8 : k = 8
    · rw [if_pos h8] at hb
      obtain ⟨⟨c, l1⟩, hc, hb⟩ := Option.bind_eq_some_iff.1 hb
      obtain ⟨⟨a, l3⟩, ha, hb⟩ := Option.map_eq_some_iff.1 hb
      injection hb with e1 e2
      subst e1 e2
      obtain ⟨c0, c1, x1⟩ := rnum_inv hBt hc
      have hB1 : Bytes l1 := fun x hx => hBt x (by rw [x1]; simp [hx])
      obtain ⟨a0, a1, x2⟩ := rtrm_inv hB1 ha
      refine ⟨?_, fun e => by cases e⟩
      dsimp only
      unfold fbytes
      rw [if_neg (by decide), if_neg (by decide), if_neg (by decide), if_neg (by decide), if_pos rfl]
      rw [h8, x1, x2]
      simp
    rw [if_neg h8] at hb
    by_cases h28 : k = 28
    · rw [if_pos h28] at hb
      obtain ⟨⟨c, l1⟩, hc, hb⟩ := Option.map_eq_some_iff.1 hb
      injection hb with e1 e2
      subst e1 e2
      obtain ⟨c0, c1, x1⟩ := rnum_inv hBt hc
      refine ⟨?_, fun e => by cases e⟩
      dsimp only
      unfold fbytes
      rw [if_neg (by decide), if_neg (by decide), if_neg (by decide), if_neg (by decide), if_neg (by decide), if_pos rfl]
      rw [h28, x1]
      simp
    rw [if_neg h28] at hb
    cases hb
def noAdj : List S58 → Prop
  | [] => True
  | f :: t => (f.f0 = 0 → ∀ g, t.head? = some g → g.f0 ≠ 0) ∧ noAdj t
def wrt (L : List S58) : List Int := (L.map fb58).flatten
theorem fb_head (f : S58) (hf : fr58 f) : ∃ t, fb58 f = f.f0 :: t := by
  obtain ⟨a0, a1, l2, a3, l4, a5⟩ := f
  unfold fr58 fright at hf
  unfold fb58 fbytes
  simp only [] at hf ⊢
  by_cases h0 : a0 = 0
  · obtain ⟨n, rfl⟩ : ∃ n : Nat, a1 = (n : Int) + 1 := ⟨(a1 - 1).toNat, by omega⟩
    rw [if_pos h0, show ((n : Int) + 1).toNat = n + 1 from by omega, List.replicate_succ, h0]
    exact ⟨_, rfl⟩
  rw [if_neg h0]
  by_cases h2 : a0 = 2
  · rw [if_pos h2, h2]; exact ⟨_, rfl⟩
  rw [if_neg h2]
  by_cases h6 : a0 = 6
  · rw [if_pos h6, h6]; exact ⟨_, rfl⟩
  rw [if_neg h6]
  by_cases h7 : a0 = 7
  · rw [if_pos h7, h7]; exact ⟨_, rfl⟩
  rw [if_neg h7]
  by_cases h8 : a0 = 8
  · rw [if_pos h8, h8]; exact ⟨_, rfl⟩
  rw [if_neg h8]
  by_cases h28 : a0 = 28
  · rw [if_pos h28, h28]; exact ⟨_, rfl⟩
  rw [if_neg h28]
  have : a0 % 256 = a0 := by omega
  rw [this]
  exact ⟨_, rfl⟩
theorem wrt_cons (f : S58) (t : List S58) : wrt (f :: t) = fb58 f ++ wrt t := by simp [wrt]
theorem wrt_head (L : List S58) (hL : ∀ f ∈ L, fr58 f) : (wrt L).head? = L.head?.map (·.f0) := by
  cases L with
  | nil => rfl
  | cons f t =>
    obtain ⟨u, e⟩ := fb_head f (hL f (by simp))
    rw [wrt_cons, e]
    rfl
theorem wrt_len (L : List S58) (hL : ∀ f ∈ L, fr58 f) : L.length ≤ (wrt L).length := by
  induction L with
  | nil => simp
  | cons f t ih =>
    obtain ⟨u, e⟩ := fb_head f (hL f (by simp))
    have := ih (fun g hg => hL g (by simp [hg]))
    rw [wrt_cons, e]
    simp
    omega
theorem frames_inv : ∀ (n : Nat) (l : List Int) (L : List S58), Bytes l → frames n l = some L → (∀ f ∈ L, fr58 f) ∧ noAdj L ∧ l = wrt L := by
  intro n
  induction n with
  | zero => intro l L _ h; cases h
  | succ n ih =>
    intro l L hB h
    match l, h with
    | [], h => injection h with h; subst h; exact ⟨fun f hf => by simp at hf, trivial, rfl⟩
    | k :: t, h =>
      rw [frames] at h
      obtain ⟨⟨f, r⟩, hx, h⟩ := Option.bind_eq_some_iff.1 h
      obtain ⟨T, hT, h⟩ := Option.map_eq_some_iff.1 h
      subst h
      obtain ⟨hf, e, hz⟩ := next_inv hB hx
      have hBr : Bytes r := fun x hx => hB x (by rw [e]; simp [hx])
      obtain ⟨h1, h2, h3⟩ := ih r T hBr hT
      refine ⟨fun g hg => ?_, ⟨fun h0 g hg hg0 => ?_, h2⟩, by rw [wrt_cons, ← h3]; exact e⟩
      · rcases List.mem_cons.1 hg with rfl | q
        · exact hf
        · exact h1 g q
      · refine hz h0 ?_
        rw [h3, wrt_head T h1, hg]
        simp [hg0]
end Go.Proofs.YtbcleckapamicaaDoor.FdP
namespace Go.Proofs.YtbcleckapamicaaDoor.FdQ
open Go.RowKit Go.Proofs.YtbcleckapamicaaDoorW.PrintWords Go.Proofs.YtbcleckapamicaaDoorW.PrintLast Go.Proofs.YtbcleckapamicaaDoorW.PrintMore Go.Proofs.YtbcleckapamicaaDoor.QFr Go.Proofs.YtbcleckapamicaaDoor.Vn Go.Proofs.YtbcleckapamicaaDoor.FrP Go.Proofs.YtbcleckapamicaaDoor.FdP
open Go.Proofs.YtbcleckapamicaaDoor.Gf (tbytes)
open Go.Proofs.YtbcleckapamicaaDoor.Fd (num4 rnum rbyt rtrm padF gapF spanF ackF ackR body fr58 next frames fread frame_Read.f body_len)
set_option linter.unusedVariables false
set_option linter.unusedSimpArgs false
theorem read_f (l : List Int) (hl : l.length ≤ 100000) (hB : Bytes l) : frame_Read.f l = some (fread l) := if_pos ⟨hl, hB⟩
theorem fread_cases (l : List Int) : (∃ L, fread l = (L, 0) ∧ l.length ≤ 1200 ∧ l ≠ [] ∧ frames (l.length + 1) l = some L) ∨ (∃ e, fread l = ([], e) ∧ e ≠ 0) := by
  unfold fread
  by_cases h1 : 1200 < l.length
  · rw [if_pos h1]; exact .inr ⟨4, rfl, by decide⟩
  rw [if_neg h1]
  by_cases h2 : l = []
  · rw [if_pos h2]; exact .inr ⟨3, rfl, by decide⟩
  rw [if_neg h2]
  cases h3 : frames (l.length + 1) l with
  | none => exact .inr ⟨3, rfl, by decide⟩
  | some L => exact .inl ⟨L, rfl, by omega, h2, rfl⟩
def GoodL (L : List S58) : Prop := L ≠ [] ∧ (∀ f ∈ L, fr58 f) ∧ noAdj L ∧ (wrt L).length ≤ 1200
theorem fread_inv {l : List Int} {L : List S58} (hB : Bytes l) (h : fread l = (L, 0)) : GoodL L ∧ l = wrt L := by
  rcases fread_cases l with ⟨L', h1, h2, h3, h4⟩ | ⟨e, h1, h2⟩
  · rw [h1] at h
    injection h with h _
    subst h
    obtain ⟨a, b, c⟩ := frames_inv _ _ _ hB h4
    exact ⟨⟨fun e => h3 (by rw [c, e]; rfl), a, b, by rw [← c]; exact h2⟩, c⟩
  · rw [h1] at h
    injection h with _ h
    exact absurd h h2
theorem rd58 (L : List S58) (i : Nat) (h : i < L.length) : rd_T58 L (i : Int) = L[i] := by
  simp [rd_T58, List.getD_eq_getElem?_getD, List.getElem?_eq_getElem h]
def okF (L : List S58) (j : Nat) : Prop := fr58 (rd_T58 L (j : Int)) ∧ (0 < j → ¬ ((rd_T58 L (j : Int)).f0 = 0 ∧ (rd_T58 L ((j - 1 : Nat) : Int)).f0 = 0))
theorem noAdj_of : ∀ (L : List S58), (∀ j, 0 < j → j < L.length → ¬ ((rd_T58 L (j : Int)).f0 = 0 ∧ (rd_T58 L ((j - 1 : Nat) : Int)).f0 = 0)) → noAdj L := by
  intro L
  induction L with
  | nil => intro _; trivial
  | cons f t ih =>
    intro h
    refine ⟨fun h0 g hg hg0 => ?_, ih (fun j hj hl q => ?_)⟩
    · cases t with
      | nil => cases hg
      | cons u t =>
        injection hg with hg
        subst hg
        refine h 1 (by decide) (by simp) ⟨hg0, ?_⟩
        exact h0
    · have e1 : rd_T58 (f :: t) ((j + 1 : Nat) : Int) = rd_T58 t (j : Int) := by
        rw [rd58 _ _ (by simp; omega), rd58 _ _ hl]; rfl
      have e2 : rd_T58 (f :: t) ((j + 1 - 1 : Nat) : Int) = rd_T58 t ((j - 1 : Nat) : Int) := by
        obtain ⟨m, rfl⟩ : ∃ m, j = m + 1 := ⟨j - 1, by omega⟩
        rw [rd58 _ _ (by simp; omega), rd58 _ _ (by omega)]; rfl
      exact h (j + 1) (by omega) (by simp; omega) (by rw [e1, e2]; exact q)
theorem noAdj_at : ∀ (L : List S58), noAdj L → ∀ j, 0 < j → j < L.length → ¬ ((rd_T58 L (j : Int)).f0 = 0 ∧ (rd_T58 L ((j - 1 : Nat) : Int)).f0 = 0) := by
  intro L
  induction L with
  | nil => intro _ j _ hl; simp at hl
  | cons f t ih =>
    intro h j hj hl q
    obtain ⟨m, rfl⟩ : ∃ m, j = m + 1 := ⟨j - 1, by omega⟩
    simp only [List.length_cons] at hl
    have e1 : rd_T58 (f :: t) ((m + 1 : Nat) : Int) = rd_T58 t (m : Int) := by
      rw [rd58 _ _ (by simp; omega), rd58 _ _ (by omega)]; rfl
    have e2 : rd_T58 (f :: t) ((m + 1 - 1 : Nat) : Int) = rd_T58 (f :: t) (m : Int) := rfl
    rw [e1, e2] at q
    rcases Nat.eq_zero_or_pos m with rfl | hm
    · cases t with
      | nil => simp at hl
      | cons u t => exact h.1 q.2 u rfl q.1
    · refine ih h.2 m hm (by omega) ⟨q.1, ?_⟩
      obtain ⟨p, rfl⟩ : ∃ p, m = p + 1 := ⟨m - 1, by omega⟩
      have e3 : rd_T58 (f :: t) ((p + 1 : Nat) : Int) = rd_T58 t (p : Int) := by
        rw [rd58 _ _ (by simp; omega), rd58 _ _ (by omega)]; rfl
      rw [e3] at q
      exact q.2
theorem right_58 (f : S58) (hl : f.f2.length ≤ 100) (k : Nat) (hk : 200 < k) : ∃ b, frame_Right.f k f.f0 f.f1 f.f2 f.f3 f.f4 f.f5 = some b ∧ (b = true ↔ fr58 f) := right_f _ _ _ _ _ _ hl k hk
theorem write58_l0 (L : List S58) (hn : L.length ≤ 2000) (hs : ∀ j, j < L.length → (rd_T58 L ((j : Nat) : Int)).f2.length ≤ 100) : ∀ (d i k : Nat), i + d = L.length → d + 4000 < k →
    (frame_Write.l0 k L L (L.length : Int) (i : Int) = some (([] : List Int), 1) ∧ ¬ (∀ j, i ≤ j → j < L.length → okF L j)) ∨
    ((∀ j, i ≤ j → j < L.length → okF L j) ∧ frame_Write.l0 k L L (L.length : Int) (i : Int) = frame_Write.l1 (k - d - 1) [] L (L.length : Int) 0) := by
  intro d
  induction d with
  | zero =>
    intro i k hi hk
    obtain ⟨k, rfl⟩ : ∃ m, k = m + 1 := ⟨k - 1, by omega⟩
    right
    refine ⟨fun j h1 h2 => by omega, ?_⟩
    simp only [frame_Write.l0]
    rw [if_neg (by omega)]
    simp
  | succ d ih =>
    intro i k hi hk
    obtain ⟨k, rfl⟩ : ∃ m, k = m + 1 := ⟨k - 1, by omega⟩
    have hi' : i < L.length := by omega
    obtain ⟨b, hb, hbi⟩ := right_58 (rd_T58 L (i : Int)) (hs i hi') k (by omega)
    have ih' := ih (i + 1) k (by omega) (by omega)
    have hk' : k + 1 - (d + 1) - 1 = k - d - 1 := by omega
    simp only [frame_Write.l0]
    simp only [if_pos (show (i : Int) < (L.length : Int) by omega), if_pos (show (0 : Int) ≤ (i : Int) by omega), hb, Option.bind_some, hk']
    have bad : ∀ (h : ¬ okF L i), (some (([] : List Int), (1 : Int)) = some (([] : List Int), 1) ∧ ¬ (∀ j, i ≤ j → j < L.length → okF L j)) := fun h => ⟨rfl, fun q => h (q i (Nat.le_refl _) hi')⟩
    have step : okF L i → (frame_Write.l0 k L L (L.length : Int) ((i + 1 : Nat) : Int) = some (([] : List Int), 1) ∧ ¬ (∀ j, i ≤ j → j < L.length → okF L j)) ∨ ((∀ j, i ≤ j → j < L.length → okF L j) ∧ frame_Write.l0 k L L (L.length : Int) ((i + 1 : Nat) : Int) = frame_Write.l1 (k - d - 1) [] L (L.length : Int) 0) := by
      intro ho
      rcases ih' with ⟨h1, h2⟩ | ⟨h1, h2⟩
      · exact .inl ⟨h1, fun q => h2 (fun j hj hl => q j (by omega) hl)⟩
      · refine .inr ⟨fun j hj1 hj2 => ?_, h2⟩
        rcases Nat.lt_or_ge i j with hij | hij
        · exact h1 j (by omega) hj2
        · obtain rfl : j = i := by omega
          exact ho
    have w1' : wrap64 ((i : Int) + 1) = ((i + 1 : Nat) : Int) := w1 i (by omega)
    by_cases hbt : b = true
    · simp only [if_pos hbt, w1']
      have hfr := hbi.1 hbt
      by_cases h0 : (i : Int) > 0
      · simp only [if_pos h0]
        by_cases hz : (rd_T58 L (i : Int)).f0 = 0
        · simp only [if_pos hz, wm1 i (show 0 < i by omega) (show i < 100000 by omega), if_pos (show (0 : Int) ≤ ((i - 1 : Nat) : Int) by omega), if_pos (show ((i - 1 : Nat) : Int) < (L.length : Int) by omega)]
          by_cases hz' : (rd_T58 L ((i - 1 : Nat) : Int)).f0 = 0
          · simp only [if_pos hz']
            exact .inl ⟨trivial, (bad (fun h => h.2 (by omega) ⟨hz, hz'⟩)).2⟩
          · simp only [if_neg hz']
            exact step ⟨hfr, fun _ q => hz' q.2⟩
        · simp only [if_neg hz]
          exact step ⟨hfr, fun _ q => hz q.1⟩
      · simp only [if_neg h0]
        exact step ⟨hfr, fun q => by omega⟩
    · simp only [if_neg hbt]
      exact .inl ⟨trivial, (bad (fun h => hbt (hbi.2 h.1))).2⟩
theorem drop58 (L : List S58) (i : Nat) (h : i < L.length) : wrt (L.drop i) = fb58 (rd_T58 L (i : Int)) ++ wrt (L.drop (i + 1)) := by
  rw [List.drop_eq_getElem_cons h, wrt_cons, rd58 L i h]
theorem write58_l1 (L : List S58) (hn : L.length ≤ 2000) (hs : ∀ j, j < L.length → fr58 (rd_T58 L ((j : Nat) : Int))) : ∀ (d i k : Nat) (x : List Int), i + d = L.length → d + 1300 < k → x.length ≤ 1200 →
    frame_Write.l1 k x L (L.length : Int) (i : Int) = some (FrP.told (x ++ wrt (L.drop i))) := by
  intro d
  induction d with
  | zero =>
    intro i k x hi hk hx
    obtain ⟨k, rfl⟩ : ∃ m, k = m + 1 := ⟨k - 1, by omega⟩
    simp only [frame_Write.l1]
    rw [if_neg (by omega), List.drop_of_length_le (by omega), show wrt [] = [] from rfl, List.append_nil]
    unfold FrP.told
    rw [if_neg (by omega)]
  | succ d ih =>
    intro i k x hi hk hx
    obtain ⟨k, rfl⟩ : ∃ m, k = m + 1 := ⟨k - 1, by omega⟩
    have hi' : i < L.length := by omega
    have hr := hs i hi'
    have hlen := fbytes_len _ _ _ _ _ _ hr
    simp only [frame_Write.l1]
    rw [if_pos (show (i : Int) < (L.length : Int) by omega), if_pos (show (0 : Int) ≤ (i : Int) by omega), if_pos (show (i : Int) < (L.length : Int) by omega), bytes_frame _ _ _ _ _ _ hr k (by omega), drop58 L i hi']
    simp only [Option.bind_some]
    rw [if_pos (show x.length + (fbytes (rd_T58 L (i : Int)).f0 (rd_T58 L (i : Int)).f1 (rd_T58 L (i : Int)).f2 (rd_T58 L (i : Int)).f3 (rd_T58 L (i : Int)).f4 (rd_T58 L (i : Int)).f5).length < 140737488355328 by omega), w1 i (by omega)]
    by_cases hq : ((x ++ fb58 (rd_T58 L (i : Int))).length : Int) > 1200
    · have hq' : ((x ++ (fb58 (rd_T58 L (i : Int)) ++ wrt (L.drop (i + 1)))).length : Int) > 1200 := by simp only [List.length_append] at hq ⊢; omega
      unfold FrP.told
      rw [if_pos hq']
      unfold fb58 at hq
      rw [if_pos hq]
    · have := ih (i + 1) k (x ++ fb58 (rd_T58 L (i : Int))) (by omega) (by omega) (by omega)
      rw [List.append_assoc] at this
      unfold fb58 at hq this ⊢
      rw [if_neg hq]
      exact this
theorem write58 (L : List S58) (hn : L.length ≤ 2000) (hs : ∀ j, j < L.length → (rd_T58 L ((j : Nat) : Int)).f2.length ≤ 100) (k : Nat) (hk : 8000 < k) :
    ∃ x e, frame_Write.f k L = some (x, e) ∧ ((e ≠ 0 ∧ x = [] ∧ ¬ GoodL L) ∨ (e = 0 ∧ GoodL L ∧ x = wrt L)) := by
  unfold frame_Write.f
  by_cases h0 : (L.length : Int) = 0
  · rw [if_pos h0]
    refine ⟨_, _, rfl, .inl ⟨by decide, rfl, fun h => h.1 (List.length_eq_zero_iff.1 (by omega))⟩⟩
  rw [if_neg h0]
  have all : (∀ j, 0 ≤ j → j < L.length → okF L j) ↔ ((∀ f ∈ L, fr58 f) ∧ noAdj L) := by
    constructor
    · intro h
      refine ⟨fun f hf => ?_, noAdj_of L (fun j hj hl => (h j (by omega) hl).2 hj)⟩
      obtain ⟨i, hi, rfl⟩ := List.getElem_of_mem hf
      rw [← rd58 L i hi]
      exact (h i (by omega) hi).1
    · rintro ⟨h1, h2⟩ j _ hl
      exact ⟨by rw [rd58 L j hl]; exact h1 _ (List.getElem_mem hl), fun hj => noAdj_at L h2 j hj hl⟩
  rcases write58_l0 L hn hs L.length 0 k (by omega) (by omega) with ⟨h1, h2⟩ | ⟨h1, h2⟩
  · exact ⟨_, _, h1, .inl ⟨by decide, rfl, fun h => h2 (all.2 ⟨h.2.1, h.2.2.1⟩)⟩⟩
  · have a := write58_l1 L hn (fun j hj => (h1 j (by omega) hj).1) L.length 0 (k - L.length - 1) [] (by omega) (by omega) (by simp)
    have e := h2.trans a
    rw [List.drop_zero, List.nil_append] at e
    have hh := all.1 h1
    refine ⟨(FrP.told (wrt L)).1, (FrP.told (wrt L)).2, e, ?_⟩
    unfold FrP.told
    by_cases hq : ((wrt L).length : Int) > 1200
    · rw [if_pos hq]; exact .inl ⟨by decide, rfl, fun h => by have := h.2.2.2; omega⟩
    · rw [if_neg hq]; exact .inr ⟨rfl, ⟨fun e => h0 (by rw [e]; rfl), hh.1, hh.2, by omega⟩, rfl⟩
theorem spans2 : spansOK [⟨7, 7⟩, ⟨3, 5⟩] := by
  refine ⟨fun j hj => ?_, by simp, by simp⟩
  have : j = 0 ∨ j = 1 := by simp at hj; omega
  rcases this with rfl | rfl
  · simp [okAt, rd_T103]
  · simp [okAt, rd_T103]
theorem awake06 (k : Nat) (hk : 9000 < k) : shibbolethlaw06_awake.f k = some true := by
  have hg : GoodL [(⟨2, 0, [⟨7, 7⟩, ⟨3, 5⟩], 0, [], 0⟩ : S58)] := by
    refine ⟨by simp, fun f hf => ?_, ⟨fun h => absurd h (by decide), trivial⟩, by simp [wrt, fb58, fbytes, ackFrom, vbytes, rd_T103]⟩
    simp at hf
    subst hf
    exact .inr (.inr (.inl ⟨rfl, spans2, rfl, rfl, rfl, rfl⟩))
  obtain ⟨x, e, h1, h2⟩ := write58 [(⟨2, 0, [⟨7, 7⟩, ⟨3, 5⟩], 0, [], 0⟩ : S58)] (by simp) (fun j hj => by
    have : j = 0 := by simp at hj; omega
    subst this; simp [rd_T58]) k (by omega)
  rcases h2 with ⟨_, _, h⟩ | ⟨rfl, _, rfl⟩
  · exact absurd hg h
  · have ht : wrt [(⟨2, 0, [⟨7, 7⟩, ⟨3, 5⟩], 0, [], 0⟩ : S58)] = [2, 7, 1, 0, 0, 2] := by
      simp [wrt, fb58, fbytes, ackFrom, vbytes, rd_T103]
    rw [ht] at h1
    unfold shibbolethlaw06_awake.f
    rw [h1]
    simp only [Option.bind_some, if_true]
    rw [fsame_f _ (by simp) _ (by simp; omega)]
    rfl
end Go.Proofs.YtbcleckapamicaaDoor.FdQ
namespace Go.Proofs.YtbcleckapamicaaDoor.Pure
open Go.RowKit Go.Proofs.YtbcleckapamicaaDoor.QFr Go.Proofs.YtbcleckapamicaaDoor.QFd Go.Proofs.YtbcleckapamicaaDoor.Vn Go.Proofs.YtbcleckapamicaaDoor.FrP Go.Proofs.YtbcleckapamicaaDoor.FdP Go.Proofs.YtbcleckapamicaaDoor.FdQ Go.Proofs.YtbcleckapamicaaDoorW.PrintWords
open Go.Proofs.YtbcleckapamicaaDoor.Fd (rnum rbyt rtrm padF gapF spanF ackF ackR body fr58 next frames fread frame_Read.f)
set_option linter.unusedVariables false
set_option linter.unusedSimpArgs false
theorem spans_le (f : S58) (h : fr58 f) : f.f2.length ≤ 100 := by
  unfold fr58 fright at h
  rcases h with h | h | h | h | h | h | h
  · omega
  · omega
  · have := h.2.1.2.2; omega
  · omega
  · omega
  · omega
  · omega
theorem good_spans {L : List S58} (h : GoodL L) (j : Nat) (hj : j < L.length) : (rd_T58 L (j : Int)).f2.length ≤ 100 := by
  rw [rd58 L j hj]
  exact spans_le _ (h.2.1 _ (List.getElem_mem hj))
theorem write_good {L : List S58} (h : GoodL L) (k : Nat) (hk : 8000 < k) : frame_Write.f k L = some (wrt L, 0) := by
  have hl := wrt_len L h.2.1
  have h4 := h.2.2.2
  obtain ⟨x, e, h1, h2⟩ := write58 L (by omega) (good_spans h) k hk
  rcases h2 with ⟨_, _, q⟩ | ⟨rfl, _, rfl⟩
  · exact absurd h q
  · exact h1
theorem FrameAgain : frameAgainPrm.Pure := by
  intro l h0
  have hB : Bytes l := VaP.bytes_of_wf h0.2
  refine ⟨10000, ?_⟩
  unfold shibbolethlaw06_FrameAgain.f
  by_cases hl : (l.length : Int) > 1300
  · rw [if_pos hl]
  rw [if_neg hl, read_f l (by omega) hB]
  simp only [Option.bind_some, awake06 10000 (by omega)]
  rcases fread_cases l with ⟨L, h1, _⟩ | ⟨e, h1, h2⟩
  · obtain ⟨hg, hw⟩ := fread_inv hB h1
    rw [h1]
    simp only [if_true]
    rw [write_good hg 10000 (by omega)]
    simp only [Option.bind_some, if_true]
    rw [← hw, fsame_f l (by omega) 10000 (by omega)]
    rfl
  · rw [h1]
    simp only [if_neg h2]
    rfl
end Go.Proofs.YtbcleckapamicaaDoor.Pure
namespace Go.Proofs.YtbcleckapamicaaDoor.Tab
open Go.RowKit Go.Proofs.YtbcleckapamicaaDoor.Gv
set_option linter.unusedVariables false
def laid {H : Type} : List (String × DataW H) := [((Rows.frameAgainRow.named).getD 0 default, Rows.laid_math_bits_deBruijn32tab), ((Rows.frameAgainRow.named).getD 1 default, Rows.laid_math_bits_deBruijn64tab)]
theorem g64 : Tryd.prog.globalNamed ((Rows.frameAgainRow.named).getD 1 default) = some 1 := by kernel_rfl
theorem ty64 : (Tryd.prog.globals[1]?).map (·.type) = some 146 := by kernel_rfl
theorem of_laid {W : World} (h : laidMet Tryd.prog laid W) : TB W := by
  have h2 : laidMet Tryd.prog [((Rows.frameAgainRow.named).getD 1 default, Lib.tabData .u8 tab64)] W := h.tail
  have ht : Lib.TabIs Tryd.prog W ((Rows.frameAgainRow.named).getD 1 default) .u8 tab64 := Lib.tabIs_of_head g64 ty64 Tryd.underlying146 Tryd.underlying5 (by kernel_rfl) (by kernel_rfl) h2
  exact ⟨fun i hi => ht.cell g64 i hi⟩
def tab32 : List Int := [0, 1, 28, 2, 29, 14, 24, 3, 30, 22, 20, 15, 25, 17, 4, 8, 31, 27, 13, 23, 21, 19, 16, 7, 26, 12, 18, 6, 11, 5, 10, 9]
noncomputable def laidWorld (os : Os) : World :=
  let w0 := World.holding Tryd.prog os ⟨#[], #[], []⟩
  { w0 with heap := (w0.heap.modify 0 fun
      | .cells _ t frozen => .cells (tab32.map fun z => Value.int .u8 z).toArray t frozen
      | o => o).modify 1 fun
      | .cells _ t frozen => .cells (tab64.map fun z => Value.int .u8 z).toArray t frozen
      | o => o }
set_option maxRecDepth 100000 in
theorem laidWorld_met (os : Os) (args : Array Value) : laidMet Tryd.prog laid ((laidWorld os).forCall (fun _ _ => 0) ⟨#[], args, []⟩).memory :=
  laidMet_of_run' 8 (by kernel_rfl) (by kernel_rfl)
end Go.Proofs.YtbcleckapamicaaDoor.Tab
