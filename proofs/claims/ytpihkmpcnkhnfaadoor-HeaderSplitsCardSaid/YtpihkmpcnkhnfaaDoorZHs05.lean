/- A part of the proof of the law HeaderSplits: RiP, HsP, QHex0. -/
import Derived.Test.YtpihkmpcnkhnfaaDoorZHs04
import Derived.Test.YtpihkmpcnkhnfaaDoorProg
import Derived.Below
import Derived.Deep.Draws
import Derived.Deep.AppendLies
import Derived.Maps.AppendAt
import Derived.OwnWalk
import Derived.Laws.BytesArg
import Derived.Laws.MakeOwn
import Derived.Laws.OwnMore
import Derived.Deep.OwnRows
import Derived.Tactics
import Derived.Lib.ConvBytes
import Derived.Laws.Slices
import Derived.WalkKit
import Derived.KernelRfl
import Derived.RowKit3
import Derived.Deep.LoopGhost
import Derived.Deep.QuietTactic
import Derived.BigQuiet
import Derived.WideLaws
import Derived.Deep.DeepCutAuto
import Derived.Deep.CutBlock
import Derived.Deep.RegionHeld3
import Derived.Laws.Rows
import Derived.Lib.AppendStr
import Derived.ArgAppend
import Derived.Laws.IdiomCopy
import Derived.OrdersHeld
import Derived.Laws.BitsLemmas
import Derived.RowKit
import Derived.Test.YtpihkmpcnkhnfaaDoorZHs00
import Derived.Test.YtpihkmpcnkhnfaaDoorZHs01
namespace Go.Proofs.YtpihkmpcnkhnfaaDoor.Ri
open Go Go.RowKit Go.Proofs.YtpihkmpcnkhnfaaDoorW.PrintWords Go.Proofs.YtpihkmpcnkhnfaaDoorW.PrintLast Go.Proofs.YtpihkmpcnkhnfaaDoorW.PrintMore
open Go.Proofs.YtpihkmpcnkhnfaaDoor.Hr (numF numF_snoc numF_bd rdN rdB rdV rdC hS11 hS13 hS14 hS15 hS17 hS21 hLong hShort hread)
set_option linter.unusedVariables false
set_option linter.unusedSimpArgs false
theorem needE_bad {e : Int} (h : e ≠ 0) (b : Bool) (x : Int) : needE e b x = e := if_neg h
theorem needE_yes (x : Int) : needE 0 true x = 0 := rfl
theorem needE_no (x : Int) : needE 0 false x = x := rfl
theorem bBad {l : List Int} {p n q : Nat} {e e' : Int} {x : List Int} (h : e ≠ 0) (hb : bytesS l p e n = (x, q, e')) : e' = e := by
  unfold bytesS at hb
  rw [if_neg h] at hb
  injection hb with _ hb
  injection hb with _ hb
  exact hb.symm
theorem vBad {l : List Int} {p q n : Nat} {e e' : Int} (h : e ≠ 0) (hb : varS l p e = (n, q, e')) : e' = e := by
  unfold varS at hb
  rw [if_neg h] at hb
  injection hb with _ hb
  injection hb with _ hb
  exact hb.symm
theorem bGood {l : List Int} {p n q : Nat} {e : Int} {x : List Int} (hb : bytesS l p 0 n = (x, q, e)) : (e = 0 ∧ rdN l p n = .ok (numF x, q) ∧ rdB l p n = .ok (x, q)) ∨ (e = 2 ∧ rdN l p n = .error 2 ∧ rdB l p n = .error 2) := by
  unfold bytesS at hb
  rw [if_pos rfl] at hb
  unfold rdN rdB
  by_cases h : p + n ≤ l.length
  · rw [if_pos h] at hb
    injection hb with h1 hb
    injection hb with h2 h3
    rw [if_pos h, if_pos h, h1, h2]
    exact .inl ⟨h3.symm, rfl, rfl⟩
  · rw [if_neg h] at hb
    injection hb with h1 hb
    injection hb with h2 h3
    rw [if_neg h, if_neg h]
    exact .inr ⟨h3.symm, rfl, rfl⟩
theorem vGood {l : List Int} {p q n : Nat} {e : Int} (hb : varS l p 0 = (n, q, e)) : (e = 0 ∧ rdV l p = .ok ((n : Int), q)) ∨ (e ≠ 0 ∧ rdV l p = .error e) := by
  unfold varS at hb
  rw [if_pos rfl] at hb
  unfold rdV
  rcases Hr.vread_cases (l.drop p) with ⟨m, s, hv, h1, h2, h3⟩ | ⟨e1, he, hv⟩
  · rw [hv] at hb ⊢
    injection hb with h1 hb
    injection hb with h2 h3
    rw [if_pos rfl]
    refine .inl ⟨h3.symm, ?_⟩
    simp at h1 h2
    rw [← h1, ← h2]
    simp
  · rw [hv] at hb ⊢
    injection hb with h1 hb
    injection hb with h2 h3
    have hne : e1 ≠ 0 := by omega
    rw [if_neg hne]
    exact .inr ⟨by rw [← h3]; exact hne, by rw [← h3]⟩
theorem long_plain {l : List Int} {x4 x5 x6 x7 x8 x10 x12 : List Int} {p1 p4 p5 p6 p7 p8 p10 p11 p12 n5 n7 n : Nat} {e4 e5 e6 e7 e8 e10 e11 e12 f kd : Int} (h0 : 192 ≤ f) (hlt : f ≤ 255) (hkd : (f - 192) / 16 = kd)
    (h4 : bytesS l p1 (needE 0 (decide (f % 16 < 4 ∧ kd < 3)) 3) 4 = (x4, p4, e4))
    (h5 : bytesS l p4 (needE e4 (decide (0 < numF x4)) 3) 1 = (x5, p5, e5)) (hn5 : numF x5 = (n5 : Int))
    (h6 : bytesS l p5 (needE e5 (decide ((n5 : Int) ≤ 20)) 4) n5 = (x6, p6, e6))
    (h7 : bytesS l p6 e6 1 = (x7, p7, e7)) (hn7 : numF x7 = (n7 : Int))
    (h8 : bytesS l p7 (needE e7 (decide ((n7 : Int) ≤ 20)) 4) n7 = (x8, p8, e8))
    (h10 : (kd = 0 ∧ ∃ (n9 p9 : Nat) (e9 : Int), varS l p8 e8 = (n9, p9, e9) ∧ bytesS l p9 (needE e9 (decide ((n9 : Int) ≤ 64)) 4) n9 = (x10, p10, e10)) ∨ (kd ≠ 0 ∧ x10 = [] ∧ p10 = p8 ∧ e10 = e8))
    (h11 : varS l p10 e10 = (n, p11, e11))
    (h12 : bytesS l p11 (needE (needE e11 (decide (f % 4 + 1 ≤ (n : Int))) 3) (decide ((n : Int) ≤ (l.length : Int) - (p11 : Int))) 2) (f % 4 + 1).toNat = (x12, p12, e12)) :
    (e12 = 0 ∧ hLong l f p1 = .ok ((kd, numF x4, x6, x8, x10, 0, numF x12, f % 4 + 1), p12, (p11 : Int) + (n : Int))) ∨ (e12 ≠ 0 ∧ hLong l f p1 = .error e12) := by
  have hkd' : f / 16 % 4 = kd := by omega
  have T11 : e11 ≠ 0 → e12 = e11 := fun h => by rw [needE_bad h, needE_bad h] at h12; exact bBad h h12
  have T10 : e10 ≠ 0 → e12 = e10 := fun h => by have e := vBad h h11; rw [T11 (by rw [e]; exact h), e]
  have T8 : e8 ≠ 0 → e12 = e8 := fun h => by
    rcases h10 with ⟨_, n9, p9, e9, h9, h10⟩ | ⟨_, _, _, e⟩
    · have e := vBad h h9
      subst e
      rw [needE_bad h] at h10
      have e := bBad h h10
      rw [T10 (by rw [e]; exact h), e]
    · rw [T10 (by rw [e]; exact h), e]
  have T7 : e7 ≠ 0 → e12 = e7 := fun h => by rw [needE_bad h] at h8; have e := bBad h h8; rw [T8 (by rw [e]; exact h), e]
  have T6 : e6 ≠ 0 → e12 = e6 := fun h => by have e := bBad h h7; rw [T7 (by rw [e]; exact h), e]
  have T5 : e5 ≠ 0 → e12 = e5 := fun h => by rw [needE_bad h] at h6; have e := bBad h h6; rw [T6 (by rw [e]; exact h), e]
  have T4 : e4 ≠ 0 → e12 = e4 := fun h => by rw [needE_bad h] at h5; have e := bBad h h5; rw [T5 (by rw [e]; exact h), e]
  unfold hLong
  rw [hkd']
  by_cases hk : f % 16 < 4 ∧ kd < 3
  rotate_left
  · rw [decide_eq_false hk, needE_no] at h4
    have e := bBad (by decide) h4
    rw [if_neg (by omega)]
    have := T4 (by omega)
    exact .inr ⟨by omega, by rw [this, e]⟩
  rw [decide_eq_true hk, needE_yes] at h4
  rw [if_pos (by omega)]
  unfold hS11
  rcases bGood h4 with ⟨rfl, hN, _⟩ | ⟨rfl, hN, _⟩ <;> rw [hN]
  rotate_left
  · exact .inr ⟨by rw [T4 (by decide)]; decide, by rw [T4 (by decide)]⟩
  show _ ∨ (_ ∧ (if 0 < numF x4 then _ else _) = _)
  by_cases hv : 0 < numF x4
  rotate_left
  · rw [decide_eq_false hv, needE_no] at h5
    have e := bBad (by decide) h5
    have := T5 (by omega)
    exact .inr ⟨by omega, by rw [if_neg hv, this, e]⟩
  rw [decide_eq_true hv, needE_yes] at h5
  have e0 : (if 0 < numF x4 then hS13 l kd (numF x4) (f % 4 + 1) p4 else .error 3) = hS13 l kd (numF x4) (f % 4 + 1) p4 := if_pos hv
  show (_ ∧ (if 0 < numF x4 then hS13 l kd (numF x4) (f % 4 + 1) p4 else .error 3) = _) ∨ (_ ∧ (if 0 < numF x4 then hS13 l kd (numF x4) (f % 4 + 1) p4 else .error 3) = _)
  rw [e0]
  clear e0
  unfold hS13
  -- To
  have c6 : (e6 = 0 ∧ rdC (rdN l p4 1) l ((20 : Nat) : Int) = .ok (x6, p6)) ∨ (e6 ≠ 0 ∧ rdC (rdN l p4 1) l ((20 : Nat) : Int) = .error e6) := by
    rcases bGood h5 with ⟨rfl, hN, _⟩ | ⟨rfl, hN, _⟩ <;> rw [hN]
    · rw [hn5]
      by_cases hm : (n5 : Int) ≤ 20
      · rw [decide_eq_true hm, needE_yes] at h6
        have e : rdC (.ok ((n5 : Int), p5)) l ((20 : Nat) : Int) = rdB l p5 n5 := by unfold rdC; exact if_pos hm
        rw [e]
        rcases bGood h6 with ⟨rfl, _, hB⟩ | ⟨rfl, _, hB⟩
        · exact .inl ⟨rfl, hB⟩
        · exact .inr ⟨by decide, hB⟩
      · rw [decide_eq_false hm, needE_no] at h6
        have e := bBad (by decide) h6
        exact .inr ⟨by omega, by rw [e]; unfold rdC; exact if_neg hm⟩
    · rw [needE_bad (by decide)] at h6
      have e := bBad (by decide) h6
      exact .inr ⟨by omega, by rw [e]; rfl⟩
  rcases c6 with ⟨rfl, hN⟩ | ⟨hne, hN⟩ <;> rw [hN]
  rotate_left
  · exact .inr ⟨by rw [T6 hne]; exact hne, by rw [T6 hne]⟩
  show (_ ∧ hS14 l kd (numF x4) x6 (f % 4 + 1) p6 = _) ∨ (_ ∧ hS14 l kd (numF x4) x6 (f % 4 + 1) p6 = _)
  unfold hS14
  have c8 : (e8 = 0 ∧ rdC (rdN l p6 1) l ((20 : Nat) : Int) = .ok (x8, p8)) ∨ (e8 ≠ 0 ∧ rdC (rdN l p6 1) l ((20 : Nat) : Int) = .error e8) := by
    rcases bGood h7 with ⟨rfl, hN, _⟩ | ⟨rfl, hN, _⟩ <;> rw [hN]
    · rw [hn7]
      by_cases hm : (n7 : Int) ≤ 20
      · rw [decide_eq_true hm, needE_yes] at h8
        have e : rdC (.ok ((n7 : Int), p7)) l ((20 : Nat) : Int) = rdB l p7 n7 := by unfold rdC; exact if_pos hm
        rw [e]
        rcases bGood h8 with ⟨rfl, _, hB⟩ | ⟨rfl, _, hB⟩
        · exact .inl ⟨rfl, hB⟩
        · exact .inr ⟨by decide, hB⟩
      · rw [decide_eq_false hm, needE_no] at h8
        have e := bBad (by decide) h8
        exact .inr ⟨by omega, by rw [e]; unfold rdC; exact if_neg hm⟩
    · rw [needE_bad (by decide)] at h8
      have e := bBad (by decide) h8
      exact .inr ⟨by omega, by rw [e]; rfl⟩
  rcases c8 with ⟨rfl, hN⟩ | ⟨hne, hN⟩ <;> rw [hN]
  rotate_left
  · exact .inr ⟨by rw [T8 hne]; exact hne, by rw [T8 hne]⟩
  show (_ ∧ hS15 l kd (numF x4) x6 x8 (f % 4 + 1) p8 = _) ∨ (_ ∧ hS15 l kd (numF x4) x6 x8 (f % 4 + 1) p8 = _)
  have c10 : (e10 = 0 ∧ hS15 l kd (numF x4) x6 x8 (f % 4 + 1) p8 = hS17 l kd (numF x4) x6 x8 x10 (f % 4 + 1) p10) ∨ (e10 ≠ 0 ∧ hS15 l kd (numF x4) x6 x8 (f % 4 + 1) p8 = .error e10) := by
    unfold hS15
    rcases h10 with ⟨k0, n9, p9, e9, h9, h10⟩ | ⟨k0, rfl, rfl, rfl⟩
    · rw [if_pos k0]
      rcases vGood h9 with ⟨rfl, hN⟩ | ⟨hne, hN⟩ <;> rw [hN]
      · by_cases hm : (n9 : Int) ≤ 64
        · rw [decide_eq_true hm, needE_yes] at h10
          have e : rdC (.ok ((n9 : Int), p9)) l ((64 : Nat) : Int) = rdB l p9 n9 := by unfold rdC; exact if_pos hm
          rw [e]
          rcases bGood h10 with ⟨rfl, _, hB⟩ | ⟨rfl, _, hB⟩ <;> rw [hB]
          · exact .inl ⟨rfl, rfl⟩
          · exact .inr ⟨by decide, rfl⟩
        · rw [decide_eq_false hm, needE_no] at h10
          have e := bBad (by decide) h10
          have e2 : rdC (.ok ((n9 : Int), p9)) l ((64 : Nat) : Int) = .error 4 := by unfold rdC; exact if_neg hm
          exact .inr ⟨by omega, by rw [e, e2]⟩
      · rw [needE_bad hne] at h10
        have e := bBad hne h10
        exact .inr ⟨by rw [e]; exact hne, by rw [e]; rfl⟩
    · rw [if_neg k0]
      exact .inl ⟨rfl, rfl⟩
  rcases c10 with ⟨rfl, hN⟩ | ⟨hne, hN⟩ <;> rw [hN]
  rotate_left
  · exact .inr ⟨by rw [T10 hne]; exact hne, by rw [T10 hne]⟩
  unfold hS17
  rcases vGood h11 with ⟨rfl, hN⟩ | ⟨hne, hN⟩ <;> rw [hN]
  rotate_left
  · exact .inr ⟨by rw [T11 hne]; exact hne, by rw [T11 hne]⟩
  show (_ ∧ (if f % 4 + 1 ≤ (n : Int) then (if (n : Int) ≤ (l.length : Int) - p11 then hS21 l kd (numF x4) x6 x8 x10 (f % 4 + 1) n p11 else .error 2) else .error 3) = _) ∨ (_ ∧ (if f % 4 + 1 ≤ (n : Int) then (if (n : Int) ≤ (l.length : Int) - p11 then hS21 l kd (numF x4) x6 x8 x10 (f % 4 + 1) n p11 else .error 2) else .error 3) = _)
  by_cases hw : f % 4 + 1 ≤ (n : Int)
  rotate_left
  · rw [decide_eq_false hw, needE_no, needE_bad (by decide)] at h12
    have e := bBad (by decide) h12
    exact .inr ⟨by omega, by rw [if_neg hw, e]⟩
  rw [decide_eq_true hw, needE_yes] at h12
  rw [if_pos hw]
  by_cases hs : (n : Int) ≤ (l.length : Int) - (p11 : Int)
  rotate_left
  · rw [decide_eq_false hs, needE_no] at h12
    have e := bBad (by decide) h12
    exact .inr ⟨by omega, by rw [if_neg hs, e]⟩
  rw [decide_eq_true hs, needE_yes] at h12
  rw [if_pos hs]
  unfold hS21
  rcases bGood h12 with ⟨rfl, hN, _⟩ | ⟨rfl, hN, _⟩ <;> rw [hN]
  · exact .inl ⟨rfl, rfl⟩
  · exact .inr ⟨by decide, rfl⟩
theorem short_plain {l : List Int} {x2 x3 : List Int} {p1 p2 p3 : Nat} {e3 e4 f : Int}
    (h2 : bytesS l p1 (needE 0 (decide (64 ≤ f ∧ f < 72)) 3) 8 = (x2, p2, e3)) (h3 : bytesS l p2 e3 (f % 4 + 1).toNat = (x3, p3, e4)) :
    (e4 = 0 ∧ hShort l f p1 = .ok ((3, 0, x2, [], [], f / 4 % 2, numF x3, f % 4 + 1), p3, (l.length : Int))) ∨ (e4 ≠ 0 ∧ hShort l f p1 = .error e4) := by
  unfold hShort
  by_cases hk : 64 ≤ f ∧ f < 72
  rotate_left
  · rw [decide_eq_false hk, needE_no] at h2
    have e := bBad (by decide) h2
    have e' := bBad (by omega) h3
    exact .inr ⟨by omega, by rw [if_neg hk, e', e]⟩
  rw [decide_eq_true hk, needE_yes] at h2
  rw [if_pos hk]
  rcases bGood h2 with ⟨rfl, _, hN⟩ | ⟨rfl, _, hN⟩ <;> rw [hN]
  · rcases bGood h3 with ⟨rfl, hM, _⟩ | ⟨rfl, hM, _⟩
    · exact .inl ⟨rfl, by show (match rdN l p2 (f % 4 + 1).toNat with | .error e => _ | .ok (nm, p2) => _) = _; rw [hM]⟩
    · exact .inr ⟨by decide, by show (match rdN l p2 (f % 4 + 1).toNat with | .error e => _ | .ok (nm, p2) => _) = _; rw [hM]⟩
  · have e := bBad (by decide) h3
    exact .inr ⟨by omega, by rw [e]⟩
theorem bLe {l : List Int} {p n q : Nat} {e e' : Int} {x : List Int} (hp : p ≤ l.length) (hb : bytesS l p e n = (x, q, e')) : q ≤ l.length := by
  unfold bytesS at hb
  split at hb
  · split at hb
    · injection hb with _ hb; injection hb with h _; omega
    · injection hb with _ hb; injection hb with h _; omega
  · injection hb with _ hb; injection hb with h _; omega
theorem vLe {l : List Int} {p n q : Nat} {e e' : Int} (hp : p ≤ l.length) (hb : varS l p e = (n, q, e')) : q ≤ l.length := by
  unfold varS at hb
  split at hb
  · rcases Hr.vread_cases (l.drop p) with ⟨m, s, hv, h1, h2, h3⟩ | ⟨e1, he, hv⟩
    · rw [hv] at hb; injection hb with _ hb; injection hb with h _; simp at h h2; omega
    · rw [hv] at hb; injection hb with _ hb; injection hb with h _; simp at h; omega
  · injection hb with _ hb; injection hb with h _; omega
theorem bNil {l : List Int} {p n q : Nat} {e : Int} {x : List Int} (hb : bytesS l p 0 n = (x, q, e)) (he : e ≠ 0) : x = [] := by
  unfold bytesS at hb
  rw [if_pos rfl] at hb
  split at hb
  · injection hb with _ hb; injection hb with _ h; exact absurd h.symm he
  · injection hb with h _; exact h.symm
theorem bBd {l : List Int} (hB : ∀ x ∈ l, 0 ≤ x ∧ x ≤ 255) {p q : Nat} {e e' : Int} {x : List Int} (hb : bytesS l p e 1 = (x, q, e')) : 0 ≤ numF x ∧ numF x ≤ 255 := by
  have h1 := bytesS_len l p e 1
  have h2 := bytesS_by hB p e 1
  rw [hb] at h1 h2
  have h3 := numF_bd x.length x rfl h2
  have h4 : (256 : Int) ^ x.length ≤ 256 := by
    match hx : x.length, (show x.length ≤ 1 from h1) with
    | 0, _ => decide
    | 1, _ => decide
  omega
def RefOf (w : World) (r : Hr.HRes) (en : Ending) (w' : World) : Prop := match r with
  | .ok (fl, p, fin) => RefPost w fl p fin 0 en w'
  | .error e => e ≠ 0 ∧ RefPost w noFlds 0 0 e en w'
theorem refOf_end {w w' : World} {r : Hr.HRes} {fl : Hr.Flds} {p : Nat} {fin e : Int} {en : Ending} (h : (e = 0 ∧ r = .ok (fl, p, fin)) ∨ (e ≠ 0 ∧ r = .error e)) (hR : RefEnd w fl p fin e en w') : RefOf w r en w' := by
  rcases h with ⟨rfl, rfl⟩ | ⟨hne, rfl⟩
  · rcases hR with ⟨_, h⟩ | ⟨h, _⟩
    · exact h
    · exact absurd rfl h
  · rcases hR with ⟨h, _⟩ | ⟨_, h⟩
    · exact absurd h hne
    · exact ⟨hne, h⟩
theorem ref_read {w : World} {A : Option Addr} {c : Nat} {l : List Int} (hC : Kd.C (Kd.int .u8) w A l.length l) (hc : l.length ≤ c) (hl : l.length ≤ 100000) (hB : ∀ x ∈ l, 0 ≤ x ∧ x ≤ 255) :
    Calls Tryd.prog 6 #[.slice A l.length c] w (RefOf w (hread l)) := by
  obtain ⟨⟨x1, p1, e1⟩, h1⟩ : ∃ S, bytesS l 0 0 1 = S := ⟨_, rfl⟩
  obtain ⟨f, hf⟩ : ∃ f, numF x1 = f := ⟨_, rfl⟩
  have hfb := bBd hB h1
  rw [hf] at hfb
  have l1 := bLe (Nat.zero_le _) h1
  by_cases hlt : f < 192
  · obtain ⟨⟨x2, p2, e3⟩, h2⟩ : ∃ S, bytesS l p1 (needE e1 (decide (64 ≤ f ∧ f < 72)) 3) 8 = S := ⟨_, rfl⟩
    obtain ⟨⟨x3, p3, e4⟩, h3⟩ : ∃ S, bytesS l p2 e3 (f % 4 + 1).toNat = S := ⟨_, rfl⟩
    refine (ref_short hC hc hl hB x1 x2 x3 p1 p2 p3 e1 e3 e4 f h1 hf hfb.1 hlt h2 h3).mono fun en w' hR => refOf_end ?_ hR
    unfold hread
    rcases bGood h1 with ⟨rfl, hN, _⟩ | ⟨rfl, hN, _⟩ <;> rw [hN]
    · show (_ ∧ (if numF x1 < 192 then hShort l (numF x1) p1 else hLong l (numF x1) p1) = _) ∨ (_ ∧ (if numF x1 < 192 then hShort l (numF x1) p1 else hLong l (numF x1) p1) = _)
      rw [hf, if_pos hlt]
      exact short_plain h2 h3
    · rw [needE_bad (by decide)] at h2
      have e := bBad (by decide) h2
      have e' := bBad (by omega) h3
      exact .inr ⟨by omega, by rw [e', e]⟩
  · obtain rfl : e1 = 0 := by
      by_cases he : e1 = 0
      · exact he
      · have := bNil h1 he
        subst this
        simp [numF] at hf
        omega
    obtain ⟨kd, hkd⟩ : ∃ kd, (f - 192) / 16 = kd := ⟨_, rfl⟩
    obtain ⟨⟨x4, p4, e4⟩, h4⟩ : ∃ S, bytesS l p1 (needE 0 (decide (f % 16 < 4 ∧ kd < 3)) 3) 4 = S := ⟨_, rfl⟩
    obtain ⟨⟨x5, p5, e5⟩, h5⟩ : ∃ S, bytesS l p4 (needE e4 (decide (0 < numF x4)) 3) 1 = S := ⟨_, rfl⟩
    have b5 := bBd hB h5
    obtain ⟨n5, hn5⟩ : ∃ n : Nat, numF x5 = (n : Int) := ⟨(numF x5).toNat, by omega⟩
    obtain ⟨⟨x6, p6, e6⟩, h6⟩ : ∃ S, bytesS l p5 (needE e5 (decide ((n5 : Int) ≤ 20)) 4) n5 = S := ⟨_, rfl⟩
    obtain ⟨⟨x7, p7, e7⟩, h7⟩ : ∃ S, bytesS l p6 e6 1 = S := ⟨_, rfl⟩
    have b7 := bBd hB h7
    obtain ⟨n7, hn7⟩ : ∃ n : Nat, numF x7 = (n : Int) := ⟨(numF x7).toNat, by omega⟩
    obtain ⟨⟨x8, p8, e8⟩, h8⟩ : ∃ S, bytesS l p7 (needE e7 (decide ((n7 : Int) ≤ 20)) 4) n7 = S := ⟨_, rfl⟩
    have l8 := bLe (bLe (bLe (bLe (bLe l1 h4) h5) h6) h7) h8
    obtain ⟨x10, p10, e10, h10, l10⟩ : ∃ (x10 : List Int) (p10 : Nat) (e10 : Int), ((kd = 0 ∧ ∃ (n9 p9 : Nat) (e9 : Int), varS l p8 e8 = (n9, p9, e9) ∧ bytesS l p9 (needE e9 (decide ((n9 : Int) ≤ 64)) 4) n9 = (x10, p10, e10)) ∨ (kd ≠ 0 ∧ x10 = [] ∧ p10 = p8 ∧ e10 = e8)) ∧ p10 ≤ l.length := by
      by_cases k0 : kd = 0
      · obtain ⟨⟨n9, p9, e9⟩, h9⟩ : ∃ S, varS l p8 e8 = S := ⟨_, rfl⟩
        obtain ⟨⟨x10, p10, e10⟩, h10⟩ : ∃ S, bytesS l p9 (needE e9 (decide ((n9 : Int) ≤ 64)) 4) n9 = S := ⟨_, rfl⟩
        exact ⟨x10, p10, e10, .inl ⟨k0, n9, p9, e9, h9, h10⟩, bLe (vLe l8 h9) h10⟩
      · exact ⟨[], p8, e8, .inr ⟨k0, rfl, rfl, rfl⟩, l8⟩
    obtain ⟨⟨n, p11, e11⟩, h11⟩ : ∃ S, varS l p10 e10 = S := ⟨_, rfl⟩
    obtain ⟨⟨x12, p12, e12⟩, h12⟩ : ∃ S, bytesS l p11 (needE (needE e11 (decide (f % 4 + 1 ≤ (n : Int))) 3) (decide ((n : Int) ≤ (l.length : Int) - (p11 : Int))) 2) (f % 4 + 1).toNat = S := ⟨_, rfl⟩
    refine (ref_long hC hc hl hB x1 x4 x5 x6 x7 x8 x10 x12 p1 p4 p5 p6 p7 p8 p10 p11 p12 n5 n7 n 0 e4 e5 e6 e7 e8 e10 e11 e12 f kd h1 hf (by omega) hfb.2 hkd h4 h5 hn5 (by omega) h6 h7 hn7 (by omega) h8 h10 h11 (vLe l10 h11) h12).mono fun en w' hR => refOf_end ?_ hR
    unfold hread
    rcases bGood h1 with ⟨_, hN, _⟩ | ⟨h, _, _⟩
    rotate_left
    · cases h
    rw [hN]
    show (_ ∧ (if numF x1 < 192 then hShort l (numF x1) p1 else hLong l (numF x1) p1) = _) ∨ (_ ∧ (if numF x1 < 192 then hShort l (numF x1) p1 else hLong l (numF x1) p1) = _)
    rw [hf, if_neg hlt]
    exact long_plain (by omega) hfb.2 hkd h4 h5 hn5 h6 h7 hn7 h8 h10 h11 h12
end Go.Proofs.YtpihkmpcnkhnfaaDoor.Ri
namespace Go.Proofs.YtpihkmpcnkhnfaaDoor.HsP
open Go Go.RowKit Go.Proofs.YtpihkmpcnkhnfaaDoorW.PrintWords
open Go.Proofs.YtpihkmpcnkhnfaaDoor.Hr (numF rdN rdB rdV rdC hS11 hS13 hS14 hS15 hS17 hS21 hLong hShort hread Flds)
set_option linter.unusedVariables false
set_option linter.unusedSimpArgs false
theorem rdN_at {l : List Int} {p n q : Nat} {v : Int} (h : rdN l p n = .ok (v, q)) : q = p + n ∧ q ≤ l.length := by
  unfold rdN at h
  by_cases hn : p + n ≤ l.length
  · rw [if_pos hn] at h; injection h with h; injection h with _ h; omega
  · rw [if_neg hn] at h; cases h
theorem rdB_at {l : List Int} {p n q : Nat} {x : List Int} (h : rdB l p n = .ok (x, q)) : q = p + n ∧ q ≤ l.length := by
  unfold rdB at h
  by_cases hn : p + n ≤ l.length
  · rw [if_pos hn] at h; injection h with h; injection h with _ h; omega
  · rw [if_neg hn] at h; cases h
theorem rdV_at {l : List Int} {p q : Nat} {v : Int} (h : rdV l p = .ok (v, q)) : p ≤ q := by
  unfold rdV at h
  split at h
  · injection h with h; injection h with _ h; omega
  · cases h
theorem rdC_at {r : Except Int (Int × Nat)} {l : List Int} {m : Int} {q : Nat} {x : List Int} (h : rdC r l m = .ok (x, q)) : ∃ n q1, r = .ok (n, q1) ∧ q1 ≤ q := by
  unfold rdC at h
  rcases r with e | ⟨n, q1⟩
  · cases h
  · change (if n ≤ m then rdB l q1 n.toNat else .error 4) = _ at h
    by_cases hn : n ≤ m
    · rw [if_pos hn] at h; exact ⟨n, q1, rfl, by have := (rdB_at h).1; omega⟩
    · rw [if_neg hn] at h; cases h
theorem s17_at {l : List Int} {kd ver wd : Int} {tO fr tk : List Int} {p q : Nat} {fl : Flds} {fin : Int} (h : hS17 l kd ver tO fr tk wd p = .ok (fl, q, fin)) : p ≤ q ∧ (wd ≤ 0 ∨ (q : Int) ≤ fin) ∧ fin ≤ l.length := by
  unfold hS17 at h
  rcases hN : rdV l p with e | ⟨n, q1⟩
  · rw [hN] at h; cases h
  · rw [hN] at h
    have h1 := rdV_at hN
    change (if wd ≤ n then (if n ≤ (l.length : Int) - q1 then hS21 l kd ver tO fr tk wd n q1 else .error 2) else .error 3) = _ at h
    split at h
    · split at h
      · unfold hS21 at h
        rcases hM : rdN l q1 wd.toNat with e | ⟨nm, q2⟩
        · rw [hM] at h; cases h
        · rw [hM] at h
          have h2 := rdN_at hM
          injection h with h
          injection h with _ h
          injection h with h3 h4
          omega
      · cases h
    · cases h
theorem hread_fin {l : List Int} (hB : ∀ x ∈ l, 0 ≤ x ∧ x ≤ 255) {fl : Flds} {p : Nat} {fin : Int} (h : hread l = .ok (fl, p, fin)) : 1 ≤ p ∧ (p : Int) ≤ fin ∧ fin ≤ l.length := by
  unfold hread at h
  rcases hN : rdN l 0 1 with e | ⟨f, p1⟩
  · rw [hN] at h; cases h
  rw [hN] at h
  have a1 := rdN_at hN
  have f0 := Hr.rdN_nn hB hN
  change (if f < 192 then hShort l f p1 else hLong l f p1) = _ at h
  split at h
  · unfold hShort at h
    split at h
    · rcases hb : rdB l p1 8 with e | ⟨tO, p2⟩
      · rw [hb] at h; cases h
      · rw [hb] at h
        have a2 := rdB_at hb
        change (match rdN l p2 (f % 4 + 1).toNat with | .error e => _ | .ok (nm, p2) => _) = _ at h
        rcases hM : rdN l p2 (f % 4 + 1).toNat with e | ⟨nm, q2⟩
        · rw [hM] at h; cases h
        · rw [hM] at h
          have a3 := rdN_at hM
          injection h with h
          injection h with _ h
          injection h with h3 h4
          omega
    · cases h
  · unfold hLong at h
    split at h
    · unfold hS11 at h
      rcases hb : rdN l p1 4 with e | ⟨ver, p2⟩
      · rw [hb] at h; cases h
      · rw [hb] at h
        have a2 := rdN_at hb
        change (if 0 < ver then hS13 l (f / 16 % 4) ver (f % 4 + 1) p2 else .error 3) = _ at h
        split at h
        · unfold hS13 at h
          rcases h3 : rdC (rdN l p2 1) l ((20 : Nat) : Int) with e | ⟨tO, p3⟩
          · rw [h3] at h; cases h
          · rw [h3] at h
            obtain ⟨n3, q3, g3, a3⟩ := rdC_at h3
            have b3 := rdN_at g3
            change hS14 l (f / 16 % 4) ver tO (f % 4 + 1) p3 = _ at h
            unfold hS14 at h
            rcases h4 : rdC (rdN l p3 1) l ((20 : Nat) : Int) with e | ⟨fr, p4⟩
            · rw [h4] at h; cases h
            · rw [h4] at h
              obtain ⟨n4, q4, g4, a4⟩ := rdC_at h4
              have b4 := rdN_at g4
              change hS15 l (f / 16 % 4) ver tO fr (f % 4 + 1) p4 = _ at h
              unfold hS15 at h
              split at h
              · rcases h5 : rdC (rdV l p4) l ((64 : Nat) : Int) with e | ⟨tk, p5⟩
                · rw [h5] at h; cases h
                · rw [h5] at h
                  obtain ⟨n5, q5, g5, a5⟩ := rdC_at h5
                  have b5 := rdV_at g5
                  have := s17_at (show hS17 l (f / 16 % 4) ver tO fr tk (f % 4 + 1) p5 = _ from h)
                  omega
              · have := s17_at h
                omega
        · cases h
    · cases h
theorem rdN_err {l : List Int} {p n : Nat} {e : Int} (h : rdN l p n = .error e) : e ≠ 0 := by
  unfold rdN at h
  split at h
  · cases h
  · injection h with h; omega
theorem rdB_err {l : List Int} {p n : Nat} {e : Int} (h : rdB l p n = .error e) : e ≠ 0 := by
  unfold rdB at h
  split at h
  · cases h
  · injection h with h; omega
theorem rdV_err {l : List Int} {p : Nat} {e : Int} (h : rdV l p = .error e) : e ≠ 0 := by
  unfold rdV at h
  split at h
  · cases h
  · rename_i hn
    injection h with h
    rw [← h]; exact hn
theorem rdC_err {r : Except Int (Int × Nat)} {l : List Int} {m e : Int} (hr : ∀ e, r = .error e → e ≠ 0) (h : rdC r l m = .error e) : e ≠ 0 := by
  unfold rdC at h
  rcases r with e1 | ⟨n, q1⟩
  · injection h with h; rw [← h]; exact hr e1 rfl
  · change (if n ≤ m then rdB l q1 n.toNat else .error 4) = _ at h
    split at h
    · exact rdB_err h
    · injection h with h; omega
theorem s17_err {l : List Int} {kd ver wd : Int} {tO fr tk : List Int} {p : Nat} {e : Int} (h : hS17 l kd ver tO fr tk wd p = .error e) : e ≠ 0 := by
  unfold hS17 at h
  rcases hN : rdV l p with e1 | ⟨n, q1⟩
  · rw [hN] at h; injection h with h; rw [← h]; exact rdV_err hN
  · rw [hN] at h
    change (if wd ≤ n then (if n ≤ (l.length : Int) - q1 then hS21 l kd ver tO fr tk wd n q1 else .error 2) else .error 3) = _ at h
    split at h
    · split at h
      · unfold hS21 at h
        rcases hM : rdN l q1 wd.toNat with e1 | ⟨nm, q2⟩
        · rw [hM] at h; injection h with h; rw [← h]; exact rdN_err hM
        · rw [hM] at h; cases h
      · injection h with h; omega
    · injection h with h; omega
theorem hread_err {l : List Int} {e : Int} (h : hread l = .error e) : e ≠ 0 := by
  unfold hread at h
  rcases hN : rdN l 0 1 with e1 | ⟨f, p1⟩
  · rw [hN] at h; injection h with h; rw [← h]; exact rdN_err hN
  rw [hN] at h
  change (if f < 192 then hShort l f p1 else hLong l f p1) = _ at h
  split at h
  · unfold hShort at h
    split at h
    · rcases hb : rdB l p1 8 with e1 | ⟨tO, p2⟩
      · rw [hb] at h; injection h with h; rw [← h]; exact rdB_err hb
      · rw [hb] at h
        change (match rdN l p2 (f % 4 + 1).toNat with | .error e => _ | .ok (nm, p2) => _) = _ at h
        rcases hM : rdN l p2 (f % 4 + 1).toNat with e1 | ⟨nm, q2⟩
        · rw [hM] at h; injection h with h; rw [← h]; exact rdN_err hM
        · rw [hM] at h; cases h
    · injection h with h; omega
  · unfold hLong at h
    split at h
    · unfold hS11 at h
      rcases hb : rdN l p1 4 with e1 | ⟨ver, p2⟩
      · rw [hb] at h; injection h with h; rw [← h]; exact rdN_err hb
      · rw [hb] at h
        change (if 0 < ver then hS13 l (f / 16 % 4) ver (f % 4 + 1) p2 else .error 3) = _ at h
        split at h
        · unfold hS13 at h
          rcases h3 : rdC (rdN l p2 1) l ((20 : Nat) : Int) with e1 | ⟨tO, p3⟩
          · rw [h3] at h; injection h with h; rw [← h]; exact rdC_err (fun _ => rdN_err) h3
          · rw [h3] at h
            change hS14 l (f / 16 % 4) ver tO (f % 4 + 1) p3 = _ at h
            unfold hS14 at h
            rcases h4 : rdC (rdN l p3 1) l ((20 : Nat) : Int) with e1 | ⟨fr, p4⟩
            · rw [h4] at h; injection h with h; rw [← h]; exact rdC_err (fun _ => rdN_err) h4
            · rw [h4] at h
              change hS15 l (f / 16 % 4) ver tO fr (f % 4 + 1) p4 = _ at h
              unfold hS15 at h
              split at h
              · rcases h5 : rdC (rdV l p4) l ((64 : Nat) : Int) with e1 | ⟨tk, p5⟩
                · rw [h5] at h; injection h with h; rw [← h]; exact rdC_err (fun _ => rdV_err) h5
                · rw [h5] at h
                  exact s17_err (show hS17 l (f / 16 % 4) ver tO fr tk (f % 4 + 1) p5 = _ from h)
              · exact s17_err h
        · injection h with h; omega
    · injection h with h; omega
def pks : Nat → List Int → List (Flds × List Int × List Int) × Int
  | 0, _ => ([], 0)
  | f + 1, b => if b = [] then ([], 0) else match hread b with
    | .error e => ([], e)
    | .ok (fl, p, fin) => ((fl, b.take p, (b.take fin.toNat).drop p) :: (pks f (b.drop fin.toNat)).1, (pks f (b.drop fin.toNat)).2)
end Go.Proofs.YtpihkmpcnkhnfaaDoor.HsP
namespace Go.Proofs.YtpihkmpcnkhnfaaDoor.QHe
open Go.RowKit Go.Proofs.YtpihkmpcnkhnfaaDoorW.PrintWords Go.Proofs.YtpihkmpcnkhnfaaDoorW.PrintLast Go.Proofs.YtpihkmpcnkhnfaaDoorW.PrintMore
attribute [local go_sem] max2_int min2_int max_two min_two max_three min_three max_four min_four
set_option linter.unusedVariables false
set_option linter.unusedSimpArgs false
def errW : Option Int → Value
 | none => .nilIface
 | some c => .iface 0 (.int .i64 c)
theorem errW_none : errW none = .nilIface := rfl
theorem errW_some (c : Int) : errW (some c) = .iface 0 (.int .i64 c) := rfl
theorem info5 : (Tryd.prog.info? 5).map (fun i => (i.zero, i.size, i.bytes)) = some (some (.int .u8 0), 1, 1) := by kernel_rfl
end Go.Proofs.YtpihkmpcnkhnfaaDoor.QHe
