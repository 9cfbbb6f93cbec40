/- A part of the proof of the law HeaderReads: RiP, QHrx0, Opn, PrmHeaderReads, PureHeaderReads, Tab. -/
import Derived.Test.YtbcleckapamicaaDoorZHr07
import Derived.Test.YtbcleckapamicaaDoorZHr00
import Derived.Deep.Slices
import Derived.WideShapes
import Derived.ProofKit
import Derived.Test.YtbcleckapamicaaDoorRows
import Derived.Test.YtbcleckapamicaaDoorZHr02
import Derived.LaidLaws
import Derived.Lib.LaidTab
import Derived.Stop.LaidErr
namespace Go.Proofs.YtbcleckapamicaaDoor.Ri
open Go Go.RowKit Go.Proofs.YtbcleckapamicaaDoorW.PrintWords Go.Proofs.YtbcleckapamicaaDoorW.PrintLast Go.Proofs.YtbcleckapamicaaDoorW.PrintMore
open Go.Proofs.YtbcleckapamicaaDoor.Hr (numF numF_snoc numF_bd rdN rdB rdV rdC hS11 hS13 hS14 hS15 hS17 hS21 hLong hShort hread)
set_option linter.unusedVariables false
set_option linter.unusedSimpArgs false
theorem needE_bad {e : Int} (h : e ≠ 0) (b : Bool) (x : Int) : needE e b x = e := if_neg h
theorem needE_yes (x : Int) : needE 0 true x = 0 := rfl
theorem needE_no (x : Int) : needE 0 false x = x := rfl
theorem bBad {l : List Int} {p n q : Nat} {e e' : Int} {x : List Int} (h : e ≠ 0) (hb : bytesS l p e n = (x, q, e')) : e' = e := by
  unfold bytesS at hb
  rw [if_neg h] at hb
  injection hb with _ hb
  injection hb with _ hb
  exact hb.symm
theorem vBad {l : List Int} {p q n : Nat} {e e' : Int} (h : e ≠ 0) (hb : varS l p e = (n, q, e')) : e' = e := by
  unfold varS at hb
  rw [if_neg h] at hb
  injection hb with _ hb
  injection hb with _ hb
  exact hb.symm
theorem bGood {l : List Int} {p n q : Nat} {e : Int} {x : List Int} (hb : bytesS l p 0 n = (x, q, e)) : (e = 0 ∧ rdN l p n = .ok (numF x, q) ∧ rdB l p n = .ok (x, q)) ∨ (e = 2 ∧ rdN l p n = .error 2 ∧ rdB l p n = .error 2) := by
  unfold bytesS at hb
  rw [if_pos rfl] at hb
  unfold rdN rdB
  by_cases h : p + n ≤ l.length
  · rw [if_pos h] at hb
    injection hb with h1 hb
    injection hb with h2 h3
    rw [if_pos h, if_pos h, h1, h2]
    exact .inl ⟨h3.symm, rfl, rfl⟩
  · rw [if_neg h] at hb
    injection hb with h1 hb
    injection hb with h2 h3
    rw [if_neg h, if_neg h]
    exact .inr ⟨h3.symm, rfl, rfl⟩
theorem vGood {l : List Int} {p q n : Nat} {e : Int} (hb : varS l p 0 = (n, q, e)) : (e = 0 ∧ rdV l p = .ok ((n : Int), q)) ∨ (e ≠ 0 ∧ rdV l p = .error e) := by
  unfold varS at hb
  rw [if_pos rfl] at hb
  unfold rdV
  rcases Hr.vread_cases (l.drop p) with ⟨m, s, hv, h1, h2, h3⟩ | ⟨e1, he, hv⟩
  · rw [hv] at hb ⊢
    injection hb with h1 hb
    injection hb with h2 h3
    rw [if_pos rfl]
    refine .inl ⟨h3.symm, ?_⟩
    simp at h1 h2
    rw [← h1, ← h2]
    simp
  · rw [hv] at hb ⊢
    injection hb with h1 hb
    injection hb with h2 h3
    have hne : e1 ≠ 0 := by omega
    rw [if_neg hne]
    exact .inr ⟨by rw [← h3]; exact hne, by rw [← h3]⟩
theorem long_plain {l : List Int} {x4 x5 x6 x7 x8 x10 x12 : List Int} {p1 p4 p5 p6 p7 p8 p10 p11 p12 n5 n7 n : Nat} {e4 e5 e6 e7 e8 e10 e11 e12 f kd : Int} (h0 : 192 ≤ f) (hlt : f ≤ 255) (hkd : (f - 192) / 16 = kd)
    (h4 : bytesS l p1 (needE 0 (decide (f % 16 < 4 ∧ kd < 3)) 3) 4 = (x4, p4, e4))
    (h5 : bytesS l p4 (needE e4 (decide (0 < numF x4)) 3) 1 = (x5, p5, e5)) (hn5 : numF x5 = (n5 : Int))
    (h6 : bytesS l p5 (needE e5 (decide ((n5 : Int) ≤ 20)) 4) n5 = (x6, p6, e6))
    (h7 : bytesS l p6 e6 1 = (x7, p7, e7)) (hn7 : numF x7 = (n7 : Int))
    (h8 : bytesS l p7 (needE e7 (decide ((n7 : Int) ≤ 20)) 4) n7 = (x8, p8, e8))
    (h10 : (kd = 0 ∧ ∃ (n9 p9 : Nat) (e9 : Int), varS l p8 e8 = (n9, p9, e9) ∧ bytesS l p9 (needE e9 (decide ((n9 : Int) ≤ 64)) 4) n9 = (x10, p10, e10)) ∨ (kd ≠ 0 ∧ x10 = [] ∧ p10 = p8 ∧ e10 = e8))
    (h11 : varS l p10 e10 = (n, p11, e11))
    (h12 : bytesS l p11 (needE (needE e11 (decide (f % 4 + 1 ≤ (n : Int))) 3) (decide ((n : Int) ≤ (l.length : Int) - (p11 : Int))) 2) (f % 4 + 1).toNat = (x12, p12, e12)) :
    (e12 = 0 ∧ hLong l f p1 = .ok ((kd, numF x4, x6, x8, x10, 0, numF x12, f % 4 + 1), p12, (p11 : Int) + (n : Int))) ∨ (e12 ≠ 0 ∧ hLong l f p1 = .error e12) := by
  have hkd' : f / 16 % 4 = kd := by omega
  have T11 : e11 ≠ 0 → e12 = e11 := fun h => by rw [needE_bad h, needE_bad h] at h12; exact bBad h h12
  have T10 : e10 ≠ 0 → e12 = e10 := fun h => by have e := vBad h h11; rw [T11 (by rw [e]; exact h), e]
  have T8 : e8 ≠ 0 → e12 = e8 := fun h => by
    rcases h10 with ⟨_, n9, p9, e9, h9, h10⟩ | ⟨_, _, _, e⟩
    · have e := vBad h h9
      subst e
      rw [needE_bad h] at h10
      have e := bBad h h10
      rw [T10 (by rw [e]; exact h), e]
    · rw [T10 (by rw [e]; exact h), e]
  have T7 : e7 ≠ 0 → e12 = e7 := fun h => by rw [needE_bad h] at h8; have e := bBad h h8; rw [T8 (by rw [e]; exact h), e]
  have T6 : e6 ≠ 0 → e12 = e6 := fun h => by have e := bBad h h7; rw [T7 (by rw [e]; exact h), e]
  have T5 : e5 ≠ 0 → e12 = e5 := fun h => by rw [needE_bad h] at h6; have e := bBad h h6; rw [T6 (by rw [e]; exact h), e]
  have T4 : e4 ≠ 0 → e12 = e4 := fun h => by rw [needE_bad h] at h5; have e := bBad h h5; rw [T5 (by rw [e]; exact h), e]
  unfold hLong
  rw [hkd']
  by_cases hk : f % 16 < 4 ∧ kd < 3
  rotate_left
  · rw [decide_eq_false hk, needE_no] at h4
    have e := bBad (by decide) h4
    rw [if_neg (by omega)]
    have := T4 (by omega)
    exact .inr ⟨by omega, by rw [this, e]⟩
  rw [decide_eq_true hk, needE_yes] at h4
  rw [if_pos (by omega)]
  unfold hS11
  rcases bGood h4 with ⟨rfl, hN, _⟩ | ⟨rfl, hN, _⟩ <;> rw [hN]
  rotate_left
  · exact .inr ⟨by rw [T4 (by decide)]; decide, by rw [T4 (by decide)]⟩
  show _ ∨ (_ ∧ (if 0 < numF x4 then _ else _) = _)
  by_cases hv : 0 < numF x4
  rotate_left
  · rw [decide_eq_false hv, needE_no] at h5
    have e := bBad (by decide) h5
    have := T5 (by omega)
    exact .inr ⟨by omega, by rw [if_neg hv, this, e]⟩
  rw [decide_eq_true hv, needE_yes] at h5
  have e0 : (if 0 < numF x4 then hS13 l kd (numF x4) (f % 4 + 1) p4 else .error 3) = hS13 l kd (numF x4) (f % 4 + 1) p4 := if_pos hv
  show (_ ∧ (if 0 < numF x4 then hS13 l kd (numF x4) (f % 4 + 1) p4 else .error 3) = _) ∨ (_ ∧ (if 0 < numF x4 then hS13 l kd (numF x4) (f % 4 + 1) p4 else .error 3) = _)
  rw [e0]
  clear e0
  unfold hS13
  -- To
  have c6 : (e6 = 0 ∧ rdC (rdN l p4 1) l ((20 : Nat) : Int) = .ok (x6, p6)) ∨ (e6 ≠ 0 ∧ rdC (rdN l p4 1) l ((20 : Nat) : Int) = .error e6) := by
    rcases bGood h5 with ⟨rfl, hN, _⟩ | ⟨rfl, hN, _⟩ <;> rw [hN]
    · rw [hn5]
      by_cases hm : (n5 : Int) ≤ 20
      · rw [decide_eq_true hm, needE_yes] at h6
        have e : rdC (.ok ((n5 : Int), p5)) l ((20 : Nat) : Int) = rdB l p5 n5 := by unfold rdC; exact if_pos hm
        rw [e]
        rcases bGood h6 with ⟨rfl, _, hB⟩ | ⟨rfl, _, hB⟩
        · exact .inl ⟨rfl, hB⟩
        · exact .inr ⟨by decide, hB⟩
      · rw [decide_eq_false hm, needE_no] at h6
        have e := bBad (by decide) h6
        exact .inr ⟨by omega, by rw [e]; unfold rdC; exact if_neg hm⟩
    · rw [needE_bad (by decide)] at h6
      have e := bBad (by decide) h6
      exact .inr ⟨by omega, by rw [e]; rfl⟩
  rcases c6 with ⟨rfl, hN⟩ | ⟨hne, hN⟩ <;> rw [hN]
  rotate_left
  · exact .inr ⟨by rw [T6 hne]; exact hne, by rw [T6 hne]⟩
  show (_ ∧ hS14 l kd (numF x4) x6 (f % 4 + 1) p6 = _) ∨ (_ ∧ hS14 l kd (numF x4) x6 (f % 4 + 1) p6 = _)
  unfold hS14
  have c8 : (e8 = 0 ∧ rdC (rdN l p6 1) l ((20 : Nat) : Int) = .ok (x8, p8)) ∨ (e8 ≠ 0 ∧ rdC (rdN l p6 1) l ((20 : Nat) : Int) = .error e8) := by
    rcases bGood h7 with ⟨rfl, hN, _⟩ | ⟨rfl, hN, _⟩ <;> rw [hN]
    · rw [hn7]
      by_cases hm : (n7 : Int) ≤ 20
      · rw [decide_eq_true hm, needE_yes] at h8
        have e : rdC (.ok ((n7 : Int), p7)) l ((20 : Nat) : Int) = rdB l p7 n7 := by unfold rdC; exact if_pos hm
        rw [e]
        rcases bGood h8 with ⟨rfl, _, hB⟩ | ⟨rfl, _, hB⟩
        · exact .inl ⟨rfl, hB⟩
        · exact .inr ⟨by decide, hB⟩
      · rw [decide_eq_false hm, needE_no] at h8
        have e := bBad (by decide) h8
        exact .inr ⟨by omega, by rw [e]; unfold rdC; exact if_neg hm⟩
    · rw [needE_bad (by decide)] at h8
      have e := bBad (by decide) h8
      exact .inr ⟨by omega, by rw [e]; rfl⟩
  rcases c8 with ⟨rfl, hN⟩ | ⟨hne, hN⟩ <;> rw [hN]
  rotate_left
  · exact .inr ⟨by rw [T8 hne]; exact hne, by rw [T8 hne]⟩
  show (_ ∧ hS15 l kd (numF x4) x6 x8 (f % 4 + 1) p8 = _) ∨ (_ ∧ hS15 l kd (numF x4) x6 x8 (f % 4 + 1) p8 = _)
  have c10 : (e10 = 0 ∧ hS15 l kd (numF x4) x6 x8 (f % 4 + 1) p8 = hS17 l kd (numF x4) x6 x8 x10 (f % 4 + 1) p10) ∨ (e10 ≠ 0 ∧ hS15 l kd (numF x4) x6 x8 (f % 4 + 1) p8 = .error e10) := by
    unfold hS15
    rcases h10 with ⟨k0, n9, p9, e9, h9, h10⟩ | ⟨k0, rfl, rfl, rfl⟩
    · rw [if_pos k0]
      rcases vGood h9 with ⟨rfl, hN⟩ | ⟨hne, hN⟩ <;> rw [hN]
      · by_cases hm : (n9 : Int) ≤ 64
        · rw [decide_eq_true hm, needE_yes] at h10
          have e : rdC (.ok ((n9 : Int), p9)) l ((64 : Nat) : Int) = rdB l p9 n9 := by unfold rdC; exact if_pos hm
          rw [e]
          rcases bGood h10 with ⟨rfl, _, hB⟩ | ⟨rfl, _, hB⟩ <;> rw [hB]
          · exact .inl ⟨rfl, rfl⟩
          · exact .inr ⟨by decide, rfl⟩
        · rw [decide_eq_false hm, needE_no] at h10
          have e := bBad (by decide) h10
          have e2 : rdC (.ok ((n9 : Int), p9)) l ((64 : Nat) : Int) = .error 4 := by unfold rdC; exact if_neg hm
          exact .inr ⟨by omega, by rw [e, e2]⟩
      · rw [needE_bad hne] at h10
        have e := bBad hne h10
        exact .inr ⟨by rw [e]; exact hne, by rw [e]; rfl⟩
    · rw [if_neg k0]
      exact .inl ⟨rfl, rfl⟩
  rcases c10 with ⟨rfl, hN⟩ | ⟨hne, hN⟩ <;> rw [hN]
  rotate_left
  · exact .inr ⟨by rw [T10 hne]; exact hne, by rw [T10 hne]⟩
  unfold hS17
  rcases vGood h11 with ⟨rfl, hN⟩ | ⟨hne, hN⟩ <;> rw [hN]
  rotate_left
  · exact .inr ⟨by rw [T11 hne]; exact hne, by rw [T11 hne]⟩
  show (_ ∧ (if f % 4 + 1 ≤ (n : Int) then (if (n : Int) ≤ (l.length : Int) - p11 then hS21 l kd (numF x4) x6 x8 x10 (f % 4 + 1) n p11 else .error 2) else .error 3) = _) ∨ (_ ∧ (if f % 4 + 1 ≤ (n : Int) then (if (n : Int) ≤ (l.length : Int) - p11 then hS21 l kd (numF x4) x6 x8 x10 (f % 4 + 1) n p11 else .error 2) else .error 3) = _)
  by_cases hw : f % 4 + 1 ≤ (n : Int)
  rotate_left
  · rw [decide_eq_false hw, needE_no, needE_bad (by decide)] at h12
    have e := bBad (by decide) h12
    exact .inr ⟨by omega, by rw [if_neg hw, e]⟩
  rw [decide_eq_true hw, needE_yes] at h12
  rw [if_pos hw]
  by_cases hs : (n : Int) ≤ (l.length : Int) - (p11 : Int)
  rotate_left
  · rw [decide_eq_false hs, needE_no] at h12
    have e := bBad (by decide) h12
    exact .inr ⟨by omega, by rw [if_neg hs, e]⟩
  rw [decide_eq_true hs, needE_yes] at h12
  rw [if_pos hs]
  unfold hS21
  rcases bGood h12 with ⟨rfl, hN, _⟩ | ⟨rfl, hN, _⟩ <;> rw [hN]
  · exact .inl ⟨rfl, rfl⟩
  · exact .inr ⟨by decide, rfl⟩
theorem short_plain {l : List Int} {x2 x3 : List Int} {p1 p2 p3 : Nat} {e3 e4 f : Int}
    (h2 : bytesS l p1 (needE 0 (decide (64 ≤ f ∧ f < 72)) 3) 8 = (x2, p2, e3)) (h3 : bytesS l p2 e3 (f % 4 + 1).toNat = (x3, p3, e4)) :
    (e4 = 0 ∧ hShort l f p1 = .ok ((3, 0, x2, [], [], f / 4 % 2, numF x3, f % 4 + 1), p3, (l.length : Int))) ∨ (e4 ≠ 0 ∧ hShort l f p1 = .error e4) := by
  unfold hShort
  by_cases hk : 64 ≤ f ∧ f < 72
  rotate_left
  · rw [decide_eq_false hk, needE_no] at h2
    have e := bBad (by decide) h2
    have e' := bBad (by omega) h3
    exact .inr ⟨by omega, by rw [if_neg hk, e', e]⟩
  rw [decide_eq_true hk, needE_yes] at h2
  rw [if_pos hk]
  rcases bGood h2 with ⟨rfl, _, hN⟩ | ⟨rfl, _, hN⟩ <;> rw [hN]
  · rcases bGood h3 with ⟨rfl, hM, _⟩ | ⟨rfl, hM, _⟩
    · exact .inl ⟨rfl, by show (match rdN l p2 (f % 4 + 1).toNat with | .error e => _ | .ok (nm, p2) => _) = _; rw [hM]⟩
    · exact .inr ⟨by decide, by show (match rdN l p2 (f % 4 + 1).toNat with | .error e => _ | .ok (nm, p2) => _) = _; rw [hM]⟩
  · have e := bBad (by decide) h3
    exact .inr ⟨by omega, by rw [e]⟩
theorem bLe {l : List Int} {p n q : Nat} {e e' : Int} {x : List Int} (hp : p ≤ l.length) (hb : bytesS l p e n = (x, q, e')) : q ≤ l.length := by
  unfold bytesS at hb
  split at hb
  · split at hb
    · injection hb with _ hb; injection hb with h _; omega
    · injection hb with _ hb; injection hb with h _; omega
  · injection hb with _ hb; injection hb with h _; omega
theorem vLe {l : List Int} {p n q : Nat} {e e' : Int} (hp : p ≤ l.length) (hb : varS l p e = (n, q, e')) : q ≤ l.length := by
  unfold varS at hb
  split at hb
  · rcases Hr.vread_cases (l.drop p) with ⟨m, s, hv, h1, h2, h3⟩ | ⟨e1, he, hv⟩
    · rw [hv] at hb; injection hb with _ hb; injection hb with h _; simp at h h2; omega
    · rw [hv] at hb; injection hb with _ hb; injection hb with h _; simp at h; omega
  · injection hb with _ hb; injection hb with h _; omega
theorem bNil {l : List Int} {p n q : Nat} {e : Int} {x : List Int} (hb : bytesS l p 0 n = (x, q, e)) (he : e ≠ 0) : x = [] := by
  unfold bytesS at hb
  rw [if_pos rfl] at hb
  split at hb
  · injection hb with _ hb; injection hb with _ h; exact absurd h.symm he
  · injection hb with h _; exact h.symm
theorem bBd {l : List Int} (hB : ∀ x ∈ l, 0 ≤ x ∧ x ≤ 255) {p q : Nat} {e e' : Int} {x : List Int} (hb : bytesS l p e 1 = (x, q, e')) : 0 ≤ numF x ∧ numF x ≤ 255 := by
  have h1 := bytesS_len l p e 1
  have h2 := bytesS_by hB p e 1
  rw [hb] at h1 h2
  have h3 := numF_bd x.length x rfl h2
  have h4 : (256 : Int) ^ x.length ≤ 256 := by
    match hx : x.length, (show x.length ≤ 1 from h1) with
    | 0, _ => decide
    | 1, _ => decide
  omega
def RefOf (w : World) (r : Hr.HRes) (en : Ending) (w' : World) : Prop := match r with
  | .ok (fl, p, fin) => RefPost w fl p fin 0 en w'
  | .error e => e ≠ 0 ∧ RefPost w noFlds 0 0 e en w'
theorem refOf_end {w w' : World} {r : Hr.HRes} {fl : Hr.Flds} {p : Nat} {fin e : Int} {en : Ending} (h : (e = 0 ∧ r = .ok (fl, p, fin)) ∨ (e ≠ 0 ∧ r = .error e)) (hR : RefEnd w fl p fin e en w') : RefOf w r en w' := by
  rcases h with ⟨rfl, rfl⟩ | ⟨hne, rfl⟩
  · rcases hR with ⟨_, h⟩ | ⟨h, _⟩
    · exact h
    · exact absurd rfl h
  · rcases hR with ⟨h, _⟩ | ⟨_, h⟩
    · exact absurd h hne
    · exact ⟨hne, h⟩
theorem ref_read {w : World} {A : Option Addr} {c : Nat} {l : List Int} (hC : Kd.C (Kd.int .u8) w A l.length l) (hc : l.length ≤ c) (hl : l.length ≤ 100000) (hB : ∀ x ∈ l, 0 ≤ x ∧ x ≤ 255) :
    Calls Tryd.prog 51 #[.slice A l.length c] w (RefOf w (hread l)) := by
  obtain ⟨⟨x1, p1, e1⟩, h1⟩ : ∃ S, bytesS l 0 0 1 = S := ⟨_, rfl⟩
  obtain ⟨f, hf⟩ : ∃ f, numF x1 = f := ⟨_, rfl⟩
  have hfb := bBd hB h1
  rw [hf] at hfb
  have l1 := bLe (Nat.zero_le _) h1
  by_cases hlt : f < 192
  · obtain ⟨⟨x2, p2, e3⟩, h2⟩ : ∃ S, bytesS l p1 (needE e1 (decide (64 ≤ f ∧ f < 72)) 3) 8 = S := ⟨_, rfl⟩
    obtain ⟨⟨x3, p3, e4⟩, h3⟩ : ∃ S, bytesS l p2 e3 (f % 4 + 1).toNat = S := ⟨_, rfl⟩
    refine (ref_short hC hc hl hB x1 x2 x3 p1 p2 p3 e1 e3 e4 f h1 hf hfb.1 hlt h2 h3).mono fun en w' hR => refOf_end ?_ hR
    unfold hread
    rcases bGood h1 with ⟨rfl, hN, _⟩ | ⟨rfl, hN, _⟩ <;> rw [hN]
    · show (_ ∧ (if numF x1 < 192 then hShort l (numF x1) p1 else hLong l (numF x1) p1) = _) ∨ (_ ∧ (if numF x1 < 192 then hShort l (numF x1) p1 else hLong l (numF x1) p1) = _)
      rw [hf, if_pos hlt]
      exact short_plain h2 h3
    · rw [needE_bad (by decide)] at h2
      have e := bBad (by decide) h2
      have e' := bBad (by omega) h3
      exact .inr ⟨by omega, by rw [e', e]⟩
  · obtain rfl : e1 = 0 := by
      by_cases he : e1 = 0
      · exact he
      · have := bNil h1 he
        subst this
        simp [numF] at hf
        omega
    obtain ⟨kd, hkd⟩ : ∃ kd, (f - 192) / 16 = kd := ⟨_, rfl⟩
    obtain ⟨⟨x4, p4, e4⟩, h4⟩ : ∃ S, bytesS l p1 (needE 0 (decide (f % 16 < 4 ∧ kd < 3)) 3) 4 = S := ⟨_, rfl⟩
    obtain ⟨⟨x5, p5, e5⟩, h5⟩ : ∃ S, bytesS l p4 (needE e4 (decide (0 < numF x4)) 3) 1 = S := ⟨_, rfl⟩
    have b5 := bBd hB h5
    obtain ⟨n5, hn5⟩ : ∃ n : Nat, numF x5 = (n : Int) := ⟨(numF x5).toNat, by omega⟩
    obtain ⟨⟨x6, p6, e6⟩, h6⟩ : ∃ S, bytesS l p5 (needE e5 (decide ((n5 : Int) ≤ 20)) 4) n5 = S := ⟨_, rfl⟩
    obtain ⟨⟨x7, p7, e7⟩, h7⟩ : ∃ S, bytesS l p6 e6 1 = S := ⟨_, rfl⟩
    have b7 := bBd hB h7
    obtain ⟨n7, hn7⟩ : ∃ n : Nat, numF x7 = (n : Int) := ⟨(numF x7).toNat, by omega⟩
    obtain ⟨⟨x8, p8, e8⟩, h8⟩ : ∃ S, bytesS l p7 (needE e7 (decide ((n7 : Int) ≤ 20)) 4) n7 = S := ⟨_, rfl⟩
    have l8 := bLe (bLe (bLe (bLe (bLe l1 h4) h5) h6) h7) h8
    obtain ⟨x10, p10, e10, h10, l10⟩ : ∃ (x10 : List Int) (p10 : Nat) (e10 : Int), ((kd = 0 ∧ ∃ (n9 p9 : Nat) (e9 : Int), varS l p8 e8 = (n9, p9, e9) ∧ bytesS l p9 (needE e9 (decide ((n9 : Int) ≤ 64)) 4) n9 = (x10, p10, e10)) ∨ (kd ≠ 0 ∧ x10 = [] ∧ p10 = p8 ∧ e10 = e8)) ∧ p10 ≤ l.length := by
      by_cases k0 : kd = 0
      · obtain ⟨⟨n9, p9, e9⟩, h9⟩ : ∃ S, varS l p8 e8 = S := ⟨_, rfl⟩
        obtain ⟨⟨x10, p10, e10⟩, h10⟩ : ∃ S, bytesS l p9 (needE e9 (decide ((n9 : Int) ≤ 64)) 4) n9 = S := ⟨_, rfl⟩
        exact ⟨x10, p10, e10, .inl ⟨k0, n9, p9, e9, h9, h10⟩, bLe (vLe l8 h9) h10⟩
      · exact ⟨[], p8, e8, .inr ⟨k0, rfl, rfl, rfl⟩, l8⟩
    obtain ⟨⟨n, p11, e11⟩, h11⟩ : ∃ S, varS l p10 e10 = S := ⟨_, rfl⟩
    obtain ⟨⟨x12, p12, e12⟩, h12⟩ : ∃ S, bytesS l p11 (needE (needE e11 (decide (f % 4 + 1 ≤ (n : Int))) 3) (decide ((n : Int) ≤ (l.length : Int) - (p11 : Int))) 2) (f % 4 + 1).toNat = S := ⟨_, rfl⟩
    refine (ref_long hC hc hl hB x1 x4 x5 x6 x7 x8 x10 x12 p1 p4 p5 p6 p7 p8 p10 p11 p12 n5 n7 n 0 e4 e5 e6 e7 e8 e10 e11 e12 f kd h1 hf (by omega) hfb.2 hkd h4 h5 hn5 (by omega) h6 h7 hn7 (by omega) h8 h10 h11 (vLe l10 h11) h12).mono fun en w' hR => refOf_end ?_ hR
    unfold hread
    rcases bGood h1 with ⟨_, hN, _⟩ | ⟨h, _, _⟩
    rotate_left
    · cases h
    rw [hN]
    show (_ ∧ (if numF x1 < 192 then hShort l (numF x1) p1 else hLong l (numF x1) p1) = _) ∨ (_ ∧ (if numF x1 < 192 then hShort l (numF x1) p1 else hLong l (numF x1) p1) = _)
    rw [hf, if_neg hlt]
    exact long_plain (by omega) hfb.2 hkd h4 h5 hn5 h6 h7 hn7 h8 h10 h11 h12
end Go.Proofs.YtbcleckapamicaaDoor.Ri
namespace Go.Proofs.YtbcleckapamicaaDoor.QHr
open Go Go.RowKit Go.Proofs.YtbcleckapamicaaDoorW.PrintWords Go.Proofs.YtbcleckapamicaaDoorW.PrintLast Go.Proofs.YtbcleckapamicaaDoorW.PrintMore Go.Proofs.YtbcleckapamicaaDoor.QHe Go.Proofs.YtbcleckapamicaaDoor.HeP Go.Proofs.YtbcleckapamicaaDoor.QHc
open Go.Proofs.YtbcleckapamicaaDoor.Gv (TB TB.below TB.alloc)
open Go.Proofs.YtbcleckapamicaaDoor.QTl (shibbolethlaw05_told.f shibbolethlaw05_told.calls)
open Go.Proofs.YtbcleckapamicaaDoor.Hr (hread rdN rdB rdV rdC hS11 hS13 hS14 hS15 hS17 hS21 hLong hShort read_good read_error)
attribute [local go_sem] max2_int min2_int max_two min_two max_three min_three max_four min_four
set_option linter.unusedVariables false
set_option linter.unusedSimpArgs false
theorem told_f (a0 a1 : Int) (l2 l3 l4 : List Int) (a5 a6 a7 : Int) (h2 : l2.length ≤ 2000) (h3 : l3.length ≤ 2000) (h4 : l4.length ≤ 2000) : shibbolethlaw05_told.f 3000 a0 a1 l2 l3 l4 a5 a6 a7 a0 a1 l2 l3 l4 a5 a6 a7 = some true := by
 unfold shibbolethlaw05_told.f
 rw [if_pos rfl, if_pos rfl, same_f _ (by omega) 3000 (by omega), same_f _ (by omega) 3000 (by omega), same_f _ (by omega) 3000 (by omega)]
 simp
theorem rdB_len {l : List Int} {p n q : Nat} {x : List Int} (h : rdB l p n = .ok (x, q)) : x.length ≤ l.length := by
 unfold rdB at h
 by_cases hn : p + n ≤ l.length
 ·rw [if_pos hn] at h
  injection h with h
  injection h with h _
  rw [← h]; simp; omega
 ·rw [if_neg hn] at h; cases h
theorem rdC_len {r : Except Int (Int × Nat)} {l : List Int} {m : Int} {q : Nat} {x : List Int} (h : rdC r l m = .ok (x, q)) : x.length ≤ l.length := by
 unfold rdC at h
 rcases r with e | ⟨n, q1⟩
 ·cases h
 ·change (if n ≤ m then rdB l q1 n.toNat else .error 4) = _ at h
  by_cases hn : n ≤ m
  ·rw [if_pos hn] at h; exact rdB_len h
  ·rw [if_neg hn] at h; cases h
theorem s17_len {l : List Int} {kd ver wd : Int} {tO fr tk : List Int} {p q : Nat} {fl : Hr.Flds} {fin : Int} (h : hS17 l kd ver tO fr tk wd p = .ok (fl, q, fin)) : fl.2.2.1 = tO ∧ fl.2.2.2.1 = fr ∧ fl.2.2.2.2.1 = tk := by
 unfold hS17 at h
 rcases hN : rdV l p with e | ⟨n, q1⟩
 ·rw [hN] at h; cases h
 ·rw [hN] at h
  change (if wd ≤ n then (if n ≤ (l.length : Int) - q1 then hS21 l kd ver tO fr tk wd n q1 else .error 2) else .error 3) = _ at h
  split at h
  ·split at h
   ·unfold hS21 at h
    rcases hM : rdN l q1 wd.toNat with e | ⟨nm, q2⟩
    ·rw [hM] at h; cases h
    ·rw [hM] at h
     injection h with h
     injection h with h _
     rw [← h]
     exact ⟨rfl, rfl, rfl⟩
   ·cases h
  ·cases h
theorem hread_len {l : List Int} {fl : Hr.Flds} {p : Nat} {fin : Int} (h : hread l = .ok (fl, p, fin)) : fl.2.2.1.length ≤ l.length ∧ fl.2.2.2.1.length ≤ l.length ∧ fl.2.2.2.2.1.length ≤ l.length := by
 unfold hread at h
 rcases hN : rdN l 0 1 with e | ⟨f, p1⟩
 ·rw [hN] at h; cases h
 rw [hN] at h
 change (if f < 192 then hShort l f p1 else hLong l f p1) = _ at h
 split at h
 ·unfold hShort at h
  split at h
  ·rcases hb : rdB l p1 8 with e | ⟨tO, p2⟩
   ·rw [hb] at h; cases h
   ·rw [hb] at h
    change (match rdN l p2 (f % 4 + 1).toNat with | .error e => _ | .ok (nm, p2) => _) = _ at h
    rcases hM : rdN l p2 (f % 4 + 1).toNat with e | ⟨nm, q2⟩
    ·rw [hM] at h; cases h
    ·rw [hM] at h
     injection h with h
     injection h with h _
     rw [← h]
     exact ⟨rdB_len hb, Nat.zero_le _, Nat.zero_le _⟩
  ·cases h
 ·unfold hLong at h
  split at h
  ·unfold hS11 at h
   rcases hb : rdN l p1 4 with e | ⟨ver, p2⟩
   ·rw [hb] at h; cases h
   ·rw [hb] at h
    change (if 0 < ver then hS13 l (f / 16 % 4) ver (f % 4 + 1) p2 else .error 3) = _ at h
    split at h
    ·unfold hS13 at h
     rcases h3 : rdC (rdN l p2 1) l ((20 : Nat) : Int) with e | ⟨tO, p3⟩
     ·rw [h3] at h; cases h
     ·rw [h3] at h
      change hS14 l (f / 16 % 4) ver tO (f % 4 + 1) p3 = _ at h
      unfold hS14 at h
      rcases h4 : rdC (rdN l p3 1) l ((20 : Nat) : Int) with e | ⟨fr, p4⟩
      ·rw [h4] at h; cases h
      ·rw [h4] at h
       change hS15 l (f / 16 % 4) ver tO fr (f % 4 + 1) p4 = _ at h
       unfold hS15 at h
       split at h
       ·rcases h5 : rdC (rdV l p4) l ((64 : Nat) : Int) with e | ⟨tk, p5⟩
        ·rw [h5] at h; cases h
        ·rw [h5] at h
         obtain ⟨e1, e2, e3⟩ := s17_len (show hS17 l (f / 16 % 4) ver tO fr tk (f % 4 + 1) p5 = _ from h)
         rw [e1, e2, e3]
         exact ⟨rdC_len h3, rdC_len h4, rdC_len h5⟩
       ·obtain ⟨e1, e2, e3⟩ := s17_len h
        rw [e1, e2, e3]
        exact ⟨rdC_len h3, rdC_len h4, Nat.zero_le _⟩
    ·cases h
  ·cases h
def shibbolethlaw05_HeaderReads.f (l0 : List Int) : Option Bool := if Bt l0 then some true else none
set_option maxHeartbeats 4000000 in
set_option maxRecDepth 100000 in
theorem shibbolethlaw05_HeaderReads.calls (A0 : Option Addr) (c0 : Nat) (l0 : List Int) (r : Bool) (w : World) (hr0 : Kd.C (Kd.int .u8) w A0 l0.length l0) (hc0 : l0.length ≤ c0) (ht : TB w) (h : shibbolethlaw05_HeaderReads.f l0 = some r) :
  Calls Tryd.prog 11 #[.slice A0 l0.length c0] w fun e w' => e = .returned (.bool r) ∧ Below w.heap.size w w' := by
 unfold shibbolethlaw05_HeaderReads.f at h
 by_cases hB : Bt l0
 rotate_left
 ·rw [if_neg hB] at h; cases h
 rw [if_pos hB] at h
 obtain rfl := Option.some.inj h
 clear h
 by_cases hg : (1500 : Int) < (l0.length : Int)
 ·clear hr0 hc0 ht hB
  go_enter Tryd.func11, Tryd.ntmps11
  go_wp2
  go_ret
  exact ⟨rfl, Below.refl _ _⟩
 have hl : l0.length ≤ 1500 := by omega
 have C0 := Aside0.mk hr0
 have L0 := Aside0.mk hc0
 have HT := Aside0.mk ht
 have HB := Aside0.mk hB
 have HL := Aside0.mk hl
 have AW := fun (W : World) (hb : Below w.heap.size w W) => shibbolethlaw05_awake.calls 3000 true W (TB.below HT.out hb) (awake_f 3000 (by omega))
 obtain ⟨rr, hrr⟩ : ∃ rr, hread l0 = rr := ⟨_, rfl⟩
 have RR := fun (W : World) (hb : Below w.heap.size w W) => Ri.ref_read (w := W) (Kd.C_below C0.out hb) L0.out (by have := HL.out; omega) HB.out
 rw [hrr] at RR
 have HRR := Aside0.mk hrr
 clear hr0 hc0 ht hB hl hrr
 rcases rr with er | ⟨⟨kd, ver, tO, fr, tk, ph, nm, wd⟩, p, fin⟩
 ·have RH := fun (W : World) (A : Option Addr) (cc : Nat) (hC : Kd.C (Kd.int .u8) W A l0.length l0) (hc : l0.length ≤ cc) => read_error W A cc l0 hC hc (by have := HL.out; omega) HB.out er HRR.out
  go_enter Tryd.func11, Tryd.ntmps11
  go_upto_region 4 with (first | ((with_reducible refine gate_dst (N := 15) rfl ?_); refine Kd.R_lit (Kd.int .u8) w.heap.size 5 ?hg (N := 15) ?hd (xs := ([] : List Int)) (inner := []) (ok := fun _ => True) (okp := fun _ => True) ?hr ?hp (fun _ hk => hk) trivial (Below.refl _ _) (Nat.le_refl _) (by simp) ?_; (case hd => rfl); (case hg => rfl); (case hr => first | (go_simp; done) | (go_simp; rfl)); (case hp => exact (Reps.none _ _)); intro v6 w6 ho6 hb6 hg_ hnew_; clear hg_ hnew_; have O6 := Aside0.mk ho6; have B6 := Aside0.mk hb6; clear ho6 hb6) | ((with_reducible refine gate_builtin (b := .append) (xs := #[.tmp 15, .tmp 16]) rfl ?_); at_builtin; refine Kd.R_append_rows (Kd.int .u8) (w0 := w) w.heap.size rfl (.tmp 15) (.tmp 16) 22 5 (.int .u8 0) 1 rfl Tryd.underlying22 Go.Proofs.YtbcleckapamicaaDoor.Hr.info5 rfl (by decide) (by omega) v6 ([] : List Int) l0 _ _ _ (fun _ => True) (fun _ => False) rfl rfl ?aO ?aR (fun _ _ h => h) (fun _ h => h.elim) ?aF ?aB ?aS ?aL ?_; (case aR => exact Kd.C_below C0.out B6.out); (case aB => exact B6.out); (case aF => exact fun _ _ => trivial); (case aO => exact O6.out); (case aS => exact below_size B6.out); (case aL => have := HL.out; simp; omega); intro v7 w7 ho7 hb7 hg7 hat7; clear hg7 hat7; rw [List.nil_append] at ho7; obtain ⟨A7, c7, e7⟩ := Kd.R_slice ho7; subst e7; have O7 := Aside0.mk ho7; have B7 := Aside0.mk hb7; clear ho7 hb7) | (go_at_call 50; refine (RH _ _ _ (Kd.R_reads' O7.out).2.2 (Kd.R_reads' O7.out).2.1).mono ?_; rintro e8 w8 ⟨rfl, hb8⟩; have B8 := Aside0.mk (below_step B7.out hb8); clear hb8))
  obtain ⟨w9, hw9⟩ : ∃ x, w8.alloc (.cells #[.int .i64 0, .int .i64 0, .slice none 0 0, .slice none 0 0, .slice none 0 0, .int .i64 0, .int .i64 0, .int .i64 0] 46) = x := ⟨_, rfl⟩
  have x0 : w9.cell? ⟨w8.heap.size, 0, none⟩ = some (.int .i64 0) := by rw [← hw9, World.cell?_alloc_at _ _ _ _ rfl]; rfl
  have x1 : w9.cell? ⟨w8.heap.size, 1, none⟩ = some (.int .i64 0) := by rw [← hw9, World.cell?_alloc_at _ _ _ _ rfl]; rfl
  have x2 : w9.cell? ⟨w8.heap.size, 2, none⟩ = some (.slice none 0 0) := by rw [← hw9, World.cell?_alloc_at _ _ _ _ rfl]; rfl
  have x3 : w9.cell? ⟨w8.heap.size, 3, none⟩ = some (.slice none 0 0) := by rw [← hw9, World.cell?_alloc_at _ _ _ _ rfl]; rfl
  have x4 : w9.cell? ⟨w8.heap.size, 4, none⟩ = some (.slice none 0 0) := by rw [← hw9, World.cell?_alloc_at _ _ _ _ rfl]; rfl
  have x5 : w9.cell? ⟨w8.heap.size, 5, none⟩ = some (.int .i64 0) := by rw [← hw9, World.cell?_alloc_at _ _ _ _ rfl]; rfl
  have x6 : w9.cell? ⟨w8.heap.size, 6, none⟩ = some (.int .i64 0) := by rw [← hw9, World.cell?_alloc_at _ _ _ _ rfl]; rfl
  have x7 : w9.cell? ⟨w8.heap.size, 7, none⟩ = some (.int .i64 0) := by rw [← hw9, World.cell?_alloc_at _ _ _ _ rfl]; rfl
  have E9 := Aside0.mk (show Below w8.heap.size w8 w9 by rw [← hw9]; exact below_alloc (Below.refl _ _) _)
  have B9 := Aside0.mk (below_step B8.out E9.out)
  try simp only [hw9]
  have RR9 := Aside0.mk (RR w9 B9.out)
  clear hw9 RR RH
  go_upto_region 5 with (go_at_call 51; refine RR9.out.mono ?_; rintro e10 w10 hR; have hR2 : er ≠ 0 ∧ ∃ z2 z3 z4 : Value, e10 = .returned (.tuple #[.agg #[.int .i64 0, .int .i64 0, z2, z3, z4, .int .i64 0, .int .i64 0, .int .i64 0], .int .i64 0, .int .i64 0, .int .i64 er]) ∧ Ri.Row0 w9 z2 ([] : List Int) ∧ Ri.Row0 w9 z3 ([] : List Int) ∧ Ri.Row0 w9 z4 ([] : List Int) ∧ Below w9.heap.size w9 w10 := hR; obtain ⟨_, z2, z3, z4, rfl, ⟨Ap, cp, ep, hcp, hlp⟩, ⟨Aq, cq, eq, hcq, hlq⟩, ⟨Ar, cr, er_, hcr, hlr⟩, hb10⟩ := hR2; subst ep eq er_; have P2 := Aside0.mk (And.intro hcp hlp); have P3 := Aside0.mk (And.intro hcq hlq); have P4 := Aside0.mk (And.intro hcr hlr); have D10 := Aside0.mk hb10; clear hR hcp hlp hcq hlq hcr hlr hb10)
  obtain ⟨w11, hw11⟩ : ∃ x, w10.alloc (.cells #[.int .i64 0, .int .i64 0, .slice Ap 0 cp, .slice Aq 0 cq, .slice Ar 0 cr, .int .i64 0, .int .i64 0, .int .i64 0] 44) = x := ⟨_, rfl⟩
  have y0 : w11.cell? ⟨w10.heap.size, 0, none⟩ = some (.int .i64 0) := by rw [← hw11, World.cell?_alloc_at _ _ _ _ rfl]; rfl
  have y1 : w11.cell? ⟨w10.heap.size, 1, none⟩ = some (.int .i64 0) := by rw [← hw11, World.cell?_alloc_at _ _ _ _ rfl]; rfl
  have y2 : w11.cell? ⟨w10.heap.size, 2, none⟩ = some (.slice Ap 0 cp) := by rw [← hw11, World.cell?_alloc_at _ _ _ _ rfl]; rfl
  have y3 : w11.cell? ⟨w10.heap.size, 3, none⟩ = some (.slice Aq 0 cq) := by rw [← hw11, World.cell?_alloc_at _ _ _ _ rfl]; rfl
  have y4 : w11.cell? ⟨w10.heap.size, 4, none⟩ = some (.slice Ar 0 cr) := by rw [← hw11, World.cell?_alloc_at _ _ _ _ rfl]; rfl
  have y5 : w11.cell? ⟨w10.heap.size, 5, none⟩ = some (.int .i64 0) := by rw [← hw11, World.cell?_alloc_at _ _ _ _ rfl]; rfl
  have y6 : w11.cell? ⟨w10.heap.size, 6, none⟩ = some (.int .i64 0) := by rw [← hw11, World.cell?_alloc_at _ _ _ _ rfl]; rfl
  have y7 : w11.cell? ⟨w10.heap.size, 7, none⟩ = some (.int .i64 0) := by rw [← hw11, World.cell?_alloc_at _ _ _ _ rfl]; rfl
  have D11 := Aside0.mk (show Below w9.heap.size w9 w11 by rw [← hw11]; exact below_alloc D10.out _)
  replace x0 := pw_cell_below D11.out x0
  replace x1 := pw_cell_below D11.out x1
  replace x2 := pw_cell_below D11.out x2
  replace x3 := pw_cell_below D11.out x3
  replace x4 := pw_cell_below D11.out x4
  replace x5 := pw_cell_below D11.out x5
  replace x6 := pw_cell_below D11.out x6
  replace x7 := pw_cell_below D11.out x7
  have B11 := Aside0.mk (below_step B9.out D11.out)
  try simp only [hw11]
  have TD := Aside0.mk (shibbolethlaw05_told.calls 3000 0 0 none 0 [] none 0 [] none 0 [] 0 0 0 0 0 Ap cp [] Aq cq [] Ar cr [] 0 0 0 true w11 (Kd.C_nil _ _) (Nat.le_refl _) (Kd.C_nil _ _) (Nat.le_refl _) (Kd.C_nil _ _) (Nat.le_refl _) (Kd.C_below P2.out.1 D11.out) P2.out.2 (Kd.C_below P3.out.1 D11.out) P3.out.2 (Kd.C_below P4.out.1 D11.out) P4.out.2 (told_f _ _ _ _ _ _ _ _ (by simp) (by simp) (by simp)))
  clear hw11
  go_wp2_with (first | (go_at_call 52; refine TD.out.mono ?_; rintro e12 w12 ⟨rfl, hb12⟩; have B12 := Aside0.mk (below_step B11.out hb12); clear hb12) | (go_at_call 38; refine (AW _ B12.out).mono ?_; rintro e13 w13 ⟨rfl, hb13⟩; have B13 := Aside0.mk (below_step B12.out hb13); clear hb13))
  go_ret
  exact ⟨rfl, B13.out⟩
 ·have RH := fun (W : World) (A : Option Addr) (cc : Nat) (hC : Kd.C (Kd.int .u8) W A l0.length l0) (hc : l0.length ≤ cc) => read_good W A cc l0 hC hc (by have := HL.out; omega) HB.out _ _ _ HRR.out
  have HLN := Aside0.mk (show tO.length ≤ l0.length ∧ fr.length ≤ l0.length ∧ tk.length ≤ l0.length from hread_len HRR.out)
  go_enter Tryd.func11, Tryd.ntmps11
  go_upto_region 4 with (first | ((with_reducible refine gate_dst (N := 15) rfl ?_); refine Kd.R_lit (Kd.int .u8) w.heap.size 5 ?hg (N := 15) ?hd (xs := ([] : List Int)) (inner := []) (ok := fun _ => True) (okp := fun _ => True) ?hr ?hp (fun _ hk => hk) trivial (Below.refl _ _) (Nat.le_refl _) (by simp) ?_; (case hd => rfl); (case hg => rfl); (case hr => first | (go_simp; done) | (go_simp; rfl)); (case hp => exact (Reps.none _ _)); intro v6 w6 ho6 hb6 hg_ hnew_; clear hg_ hnew_; have O6 := Aside0.mk ho6; have B6 := Aside0.mk hb6; clear ho6 hb6) | ((with_reducible refine gate_builtin (b := .append) (xs := #[.tmp 15, .tmp 16]) rfl ?_); at_builtin; refine Kd.R_append_rows (Kd.int .u8) (w0 := w) w.heap.size rfl (.tmp 15) (.tmp 16) 22 5 (.int .u8 0) 1 rfl Tryd.underlying22 Go.Proofs.YtbcleckapamicaaDoor.Hr.info5 rfl (by decide) (by omega) v6 ([] : List Int) l0 _ _ _ (fun _ => True) (fun _ => False) rfl rfl ?aO ?aR (fun _ _ h => h) (fun _ h => h.elim) ?aF ?aB ?aS ?aL ?_; (case aR => exact Kd.C_below C0.out B6.out); (case aB => exact B6.out); (case aF => exact fun _ _ => trivial); (case aO => exact O6.out); (case aS => exact below_size B6.out); (case aL => have := HL.out; simp; omega); intro v7 w7 ho7 hb7 hg7 hat7; clear hg7 hat7; rw [List.nil_append] at ho7; obtain ⟨A7, c7, e7⟩ := Kd.R_slice ho7; subst e7; have O7 := Aside0.mk ho7; have B7 := Aside0.mk hb7; clear ho7 hb7) | (go_at_call 50; refine (RH _ _ _ (Kd.R_reads' O7.out).2.2 (Kd.R_reads' O7.out).2.1).mono ?_; rintro e8 w8 ⟨v2, v3, v4, rfl, ⟨s1, s2, s3, s4, _, _, _, _, hv2, hv3, hv4⟩, hb8⟩; obtain ⟨Ae, ce, ee⟩ := Kd.R_slice hv2; obtain ⟨Af, cf, ef⟩ := Kd.R_slice hv3; obtain ⟨Ag, cg, eg⟩ := Kd.R_slice hv4; subst ee ef eg; have U2 := Aside0.mk (Kd.R_reads' hv2).2; have U3 := Aside0.mk (Kd.R_reads' hv3).2; have U4 := Aside0.mk (Kd.R_reads' hv4).2; have B8 := Aside0.mk (below_step B7.out hb8); clear hv2 hv3 hv4 hb8))
  obtain ⟨w9, hw9⟩ : ∃ x, w8.alloc (.cells #[.int .i64 kd, .int .i64 ver, .slice Ae tO.length ce, .slice Af fr.length cf, .slice Ag tk.length cg, .int .i64 ph, .int .i64 nm, .int .i64 wd] 46) = x := ⟨_, rfl⟩
  have x0 : w9.cell? ⟨w8.heap.size, 0, none⟩ = some (.int .i64 kd) := by rw [← hw9, World.cell?_alloc_at _ _ _ _ rfl]; rfl
  have x1 : w9.cell? ⟨w8.heap.size, 1, none⟩ = some (.int .i64 ver) := by rw [← hw9, World.cell?_alloc_at _ _ _ _ rfl]; rfl
  have x2 : w9.cell? ⟨w8.heap.size, 2, none⟩ = some (.slice Ae tO.length ce) := by rw [← hw9, World.cell?_alloc_at _ _ _ _ rfl]; rfl
  have x3 : w9.cell? ⟨w8.heap.size, 3, none⟩ = some (.slice Af fr.length cf) := by rw [← hw9, World.cell?_alloc_at _ _ _ _ rfl]; rfl
  have x4 : w9.cell? ⟨w8.heap.size, 4, none⟩ = some (.slice Ag tk.length cg) := by rw [← hw9, World.cell?_alloc_at _ _ _ _ rfl]; rfl
  have x5 : w9.cell? ⟨w8.heap.size, 5, none⟩ = some (.int .i64 ph) := by rw [← hw9, World.cell?_alloc_at _ _ _ _ rfl]; rfl
  have x6 : w9.cell? ⟨w8.heap.size, 6, none⟩ = some (.int .i64 nm) := by rw [← hw9, World.cell?_alloc_at _ _ _ _ rfl]; rfl
  have x7 : w9.cell? ⟨w8.heap.size, 7, none⟩ = some (.int .i64 wd) := by rw [← hw9, World.cell?_alloc_at _ _ _ _ rfl]; rfl
  have E9 := Aside0.mk (show Below w8.heap.size w8 w9 by rw [← hw9]; exact below_alloc (Below.refl _ _) _)
  have B9 := Aside0.mk (below_step B8.out E9.out)
  try simp only [hw9]
  have RR9 := Aside0.mk (RR w9 B9.out)
  clear hw9 RR RH
  go_upto_region 5 with (go_at_call 51; refine RR9.out.mono ?_; rintro e10 w10 hR; have hR2 : ∃ z2 z3 z4 : Value, e10 = .returned (.tuple #[.agg #[.int .i64 kd, .int .i64 ver, z2, z3, z4, .int .i64 ph, .int .i64 nm, .int .i64 wd], .int .i64 (p : Int), .int .i64 fin, .int .i64 0]) ∧ Ri.Row0 w9 z2 tO ∧ Ri.Row0 w9 z3 fr ∧ Ri.Row0 w9 z4 tk ∧ Below w9.heap.size w9 w10 := hR; obtain ⟨z2, z3, z4, rfl, ⟨Ap, cp, ep, hcp, hlp⟩, ⟨Aq, cq, eq, hcq, hlq⟩, ⟨Ar, cr, er_, hcr, hlr⟩, hb10⟩ := hR2; subst ep eq er_; have P2 := Aside0.mk (And.intro hcp hlp); have P3 := Aside0.mk (And.intro hcq hlq); have P4 := Aside0.mk (And.intro hcr hlr); have D10 := Aside0.mk hb10; clear hR hcp hlp hcq hlq hcr hlr hb10)
  obtain ⟨w11, hw11⟩ : ∃ x, w10.alloc (.cells #[.int .i64 kd, .int .i64 ver, .slice Ap tO.length cp, .slice Aq fr.length cq, .slice Ar tk.length cr, .int .i64 ph, .int .i64 nm, .int .i64 wd] 44) = x := ⟨_, rfl⟩
  have y0 : w11.cell? ⟨w10.heap.size, 0, none⟩ = some (.int .i64 kd) := by rw [← hw11, World.cell?_alloc_at _ _ _ _ rfl]; rfl
  have y1 : w11.cell? ⟨w10.heap.size, 1, none⟩ = some (.int .i64 ver) := by rw [← hw11, World.cell?_alloc_at _ _ _ _ rfl]; rfl
  have y2 : w11.cell? ⟨w10.heap.size, 2, none⟩ = some (.slice Ap tO.length cp) := by rw [← hw11, World.cell?_alloc_at _ _ _ _ rfl]; rfl
  have y3 : w11.cell? ⟨w10.heap.size, 3, none⟩ = some (.slice Aq fr.length cq) := by rw [← hw11, World.cell?_alloc_at _ _ _ _ rfl]; rfl
  have y4 : w11.cell? ⟨w10.heap.size, 4, none⟩ = some (.slice Ar tk.length cr) := by rw [← hw11, World.cell?_alloc_at _ _ _ _ rfl]; rfl
  have y5 : w11.cell? ⟨w10.heap.size, 5, none⟩ = some (.int .i64 ph) := by rw [← hw11, World.cell?_alloc_at _ _ _ _ rfl]; rfl
  have y6 : w11.cell? ⟨w10.heap.size, 6, none⟩ = some (.int .i64 nm) := by rw [← hw11, World.cell?_alloc_at _ _ _ _ rfl]; rfl
  have y7 : w11.cell? ⟨w10.heap.size, 7, none⟩ = some (.int .i64 wd) := by rw [← hw11, World.cell?_alloc_at _ _ _ _ rfl]; rfl
  have D11 := Aside0.mk (show Below w9.heap.size w9 w11 by rw [← hw11]; exact below_alloc D10.out _)
  replace x0 := pw_cell_below D11.out x0
  replace x1 := pw_cell_below D11.out x1
  replace x2 := pw_cell_below D11.out x2
  replace x3 := pw_cell_below D11.out x3
  replace x4 := pw_cell_below D11.out x4
  replace x5 := pw_cell_below D11.out x5
  replace x6 := pw_cell_below D11.out x6
  replace x7 := pw_cell_below D11.out x7
  have B11 := Aside0.mk (below_step B9.out D11.out)
  try simp only [hw11]
  have TD := Aside0.mk (shibbolethlaw05_told.calls 3000 kd ver Ae ce tO Af cf fr Ag cg tk ph nm wd kd ver Ap cp tO Aq cq fr Ar cr tk ph nm wd true w11 (Kd.C_below U2.out.2 (below_step E9.out D11.out)) U2.out.1 (Kd.C_below U3.out.2 (below_step E9.out D11.out)) U3.out.1 (Kd.C_below U4.out.2 (below_step E9.out D11.out)) U4.out.1 (Kd.C_below P2.out.1 D11.out) P2.out.2 (Kd.C_below P3.out.1 D11.out) P3.out.2 (Kd.C_below P4.out.1 D11.out) P4.out.2 (told_f _ _ _ _ _ _ _ _ (by have := HLN.out; have := HL.out; omega) (by have := HLN.out; have := HL.out; omega) (by have := HLN.out; have := HL.out; omega)))
  clear hw11
  go_wp2_with (first | (go_at_call 52; refine TD.out.mono ?_; rintro e12 w12 ⟨rfl, hb12⟩; have B12 := Aside0.mk (below_step B11.out hb12); clear hb12) | (go_at_call 38; refine (AW _ B12.out).mono ?_; rintro e13 w13 ⟨rfl, hb13⟩; have B13 := Aside0.mk (below_step B12.out hb13); clear hb13))
  go_ret
  exact ⟨rfl, B13.out⟩
end Go.Proofs.YtbcleckapamicaaDoor.QHr
namespace Go.Proofs.YtbcleckapamicaaDoor.Opn
open Go.RowKit Go.Proofs.YtbcleckapamicaaDoorW.PrintWords
set_option linter.unusedVariables false
variable {P : Program}
def Opens (P : Program) (t : TypeId) {α : Type} (d : Kd α) (ok : α → Prop) : Prop :=
  ∀ (H : Type) (enc : TypeId × Value → H) (w : World) (base : Nat) (spare : Nat → Bool) (held : Bool) (fuel : Nat) (cs : List Value) (x : DataW H × List MemPlace),
    DataW.trod enc P w base spare held fuel t cs = some x → ∃ a, d.K w a cs ∧ ok a
theorem Opens.int {t : TypeId} {k : IntKind} (ht : P.underlying t = some (.int k)) : Opens P t (Kd.int k) (fun n => (Lit.int k n).wf = true) := by
  intro H enc w base spare held fuel cs x h
  obtain ⟨n, rfl, _, hw⟩ := DataW.trod_int ht h
  exact ⟨n, rfl, hw⟩
theorem Opens.bool {t : TypeId} (ht : P.underlying t = some .bool) : Opens P t Kd.bool (fun _ => True) := by
  intro H enc w base spare held fuel cs x h
  obtain ⟨b, rfl, _⟩ := DataW.trod_bool ht h
  exact ⟨b, rfl, trivial⟩
theorem Opens.slice {t e : TypeId} {α : Type} {d : Kd α} {ok : α → Prop} (ht : P.underlying t = some (.slice e)) (hs : P.cellsOf e = d.sz) (he : Opens P e d ok) :
    Opens P t (Kd.slice e d) (fun xs => xs.length ≤ 9223372036854775807 ∧ ∀ x ∈ xs, ok x) := by
  classical
  intro H enc w base spare held fuel cs x h
  rcases Go.Deep.open_slice ht h with ⟨rfl, _⟩ | ⟨a, len, cap, m, n, D, Pl, rfl, hb, hl, hm, hmm, _, hx⟩
  · exact ⟨[], ⟨none, 0, rfl, by simp, Kd.C_nil d w⟩, by simp, by simp⟩
  · have hlm : len ≤ m := by rw [hmm]; split <;> omega
    have hex : ∀ i, i < len → ∃ p : α, (∃ c, c.length = d.sz ∧ d.K w p c ∧ ∀ j u, c[j]? = some u → w.cell? (a.add (i * d.sz + j)) = some u) ∧ ok p := by
      intro i hi
      obtain ⟨c, hc1, hc2⟩ := hx i (by omega)
      obtain ⟨_, hlen, hcell⟩ := World.cells?_some hc1
      obtain ⟨p, hK, ho⟩ := he H enc w base spare held n c _ hc2
      rw [hs] at hlen hcell
      refine ⟨p, ⟨c, hlen, hK, fun j u hj => ?_⟩, ho⟩
      have hjl : j < d.sz := by
        rcases Nat.lt_or_ge j c.length with h1 | h1
        · omega
        · rw [List.getElem?_eq_none h1] at hj; cases hj
      have := hcell j hjl
      rw [Addr.add_add] at this
      rw [this, hj]
    have hmax : len ≤ 9223372036854775807 := by have := hm; simp only [maxLen] at this; omega
    have hL : ∃ l : List α, l.length = len ∧ ∀ (i : Nat) (p : α), l[i]? = some p → (∃ c, c.length = d.sz ∧ d.K w p c ∧ ∀ j u, c[j]? = some u → w.cell? (a.add (i * d.sz + j)) = some u) ∧ ok p := by
      refine ⟨List.ofFn (fun i : Fin len => Classical.choose (hex i.1 i.2)), by simp, fun i p hp => ?_⟩
      rw [List.getElem?_ofFn] at hp
      split at hp
      · rename_i hi
        obtain rfl := Option.some.inj hp
        exact Classical.choose_spec (hex i hi)
      · cases hp
    obtain ⟨l, hlen, hall⟩ := hL
    refine ⟨l, ⟨some a, cap, by rw [hlen], by omega, hlen ▸ rfl, by omega, fun _ => ⟨a, rfl, fun j p hp => (hall j p hp).1⟩⟩, by omega, fun p hp => ?_⟩
    obtain ⟨i, hi, rfl⟩ := List.mem_iff_getElem.1 hp
    exact (hall i _ (List.getElem?_eq_getElem hi)).2
def OpensF (P : Program) (fs : List Field) (off : Nat) {α : Type} (d : Kd α) (ok : α → Prop) : Prop :=
  ∀ (H : Type) (enc : TypeId × Value → H) (w : World) (base : Nat) (spare : Nat → Bool) (held : Bool) (n : Nat) (cs : List Value), cs.length = off + d.sz →
    (∀ f, f ∈ fs → ∃ y, DataW.trod enc P w base spare held n f.type ((cs.drop f.offset).take (P.cellsOf f.type)) = some y) → ∃ a, d.K w a (cs.drop off) ∧ ok a
theorem OpensF.last {f : Field} {off : Nat} {α : Type} {d : Kd α} {ok : α → Prop} (ho : f.offset = off) (hc : P.cellsOf f.type = d.sz) (h : Opens P f.type d ok) : OpensF P [f] off d ok := by
  intro H enc w base spare held n cs hl hf
  obtain ⟨y, hy⟩ := hf f (List.mem_singleton.2 rfl)
  rw [ho, hc, List.take_of_length_le (by simp; omega)] at hy
  exact h H enc w base spare held n _ _ hy
theorem OpensF.cons {f : Field} {fs : List Field} {off : Nat} {α β : Type} {d : Kd α} {d' : Kd β} {ok : α → Prop} {ok' : β → Prop} (ho : f.offset = off) (hc : P.cellsOf f.type = d.sz) (h : Opens P f.type d ok) (h' : OpensF P fs (off + d.sz) d' ok') :
    OpensF P (f :: fs) off (Kd.pair d d') (fun p => ok p.1 ∧ ok' p.2) := by
  intro H enc w base spare held n cs hl hf
  have hl' : cs.length = off + (d.sz + d'.sz) := hl
  obtain ⟨y, hy⟩ := hf f (List.mem_cons_self ..)
  rw [ho, hc] at hy
  obtain ⟨a, hK, hok⟩ := h H enc w base spare held n _ _ hy
  obtain ⟨b, hK', hok'⟩ := h' H enc w base spare held n cs (by omega) (fun g hg => hf g (List.mem_cons_of_mem _ hg))
  refine ⟨(a, b), ⟨_, _, ?_, hK, hK'⟩, hok, hok'⟩
  rw [← List.drop_drop, List.take_append_drop]
theorem Opens.struct {t : TypeId} {fs : Array Field} {α : Type} {d : Kd α} {ok : α → Prop} (ht : P.underlying t = some (.struct fs)) (hs : P.cellsOf t = d.sz) (h : OpensF P fs.toList 0 d ok) : Opens P t d ok := by
  intro H enc w base spare held fuel cs x hx
  obtain ⟨xs, n, _, _, hl, hlen, hf⟩ := DataW.trod_struct ht hx
  have := h H enc w base spare held n cs (by rw [hl, hs]; omega) (fun f hm => ?_)
  · rwa [List.drop_zero] at this
  · obtain ⟨i, hi, rfl⟩ := List.mem_iff_getElem.1 hm
    have hi' : i < fs.size := by simpa using hi
    have := hf i fs[i] (by simp [hi'])
    refine ⟨xs[i]'(by omega), ?_⟩
    rw [List.getElem?_eq_getElem (show i < xs.length by omega)] at this
    simpa using this
theorem Opens.value {t : TypeId} {α : Type} {d : Kd α} {ok : α → Prop} (h : Opens P t d ok) {H : Type} {enc : TypeId × Value → H} {w : World} {base : Nat} {spare : Nat → Bool} {held : Bool} {v : Value} {x : DataW H} {ps : List MemPlace} (hv : DataW.Trod enc P w base spare held t v x ps) :
    ∃ a, d.K w a v.cells.toList ∧ ok a := by
  obtain ⟨fuel, hf⟩ := hv
  exact h H enc w base spare held fuel _ _ hf
theorem Opens.sliceValue {t e : TypeId} {α : Type} {d : Kd α} {ok : List α → Prop} (h : Opens P t (Kd.slice e d) ok) {H : Type} {enc : TypeId × Value → H} {w : World} {base : Nat} {spare : Nat → Bool} {held : Bool} {a : Option Addr} {len cap : Nat} {x : DataW H} {ps : List MemPlace} (hv : DataW.Trod enc P w base spare held t (.slice a len cap) x ps) :
    ∃ l : List α, len = l.length ∧ l.length ≤ cap ∧ d.C w a l.length l ∧ ok l := by
  obtain ⟨l, ⟨A, c, hcs, hl, hC⟩, ho⟩ := h.value hv
  simp [Value.cells] at hcs
  obtain ⟨rfl, rfl, rfl⟩ := hcs
  exact ⟨l, rfl, hl, hC, ho⟩
end Go.Proofs.YtbcleckapamicaaDoor.Opn
namespace Go.Proofs.YtbcleckapamicaaDoor.headerReadsPrm
open Go.RowKit Go.Proofs.YtbcleckapamicaaDoorW.PrintWords Go.Proofs.YtbcleckapamicaaDoor.QHr Go.Proofs.YtbcleckapamicaaDoor.Opn
set_option linter.unusedVariables false
def ok5 : Int → Prop := fun n => (Lit.int .u8 n).wf = true
theorem opens_ok5 : Opens Tryd.prog 5 (Kd.int .u8) ok5 := Opens.int Tryd.underlying5
def ok22 : List (Int) → Prop := fun xs => xs.length ≤ 9223372036854775807 ∧ ∀ x ∈ xs, ok5 x
theorem opens_ok22 : Opens Tryd.prog 22 (Kd.slice 5 (Kd.int .u8)) ok22 := Opens.slice Tryd.underlying22 (by kernel_rfl) opens_ok5
def Pure : Prop := ∀ (x0 : List (Int)), ok22 x0 → shibbolethlaw05_HeaderReads.f x0 = some true
end Go.Proofs.YtbcleckapamicaaDoor.headerReadsPrm
namespace Go.Proofs.YtbcleckapamicaaDoor.Pure
open Go Go.RowKit Go.Proofs.YtbcleckapamicaaDoor.QHr Go.Proofs.YtbcleckapamicaaDoor.QHc Go.Proofs.YtbcleckapamicaaDoorW.PrintWords
set_option linter.unusedVariables false
theorem u8b {x : Int} (h : (Lit.int .u8 x).wf = true) : 0 ≤ x ∧ x ≤ 255 := by
  simp [Lit.wf, IntKind.min, IntKind.max, IntKind.signed, IntKind.bits] at h
  omega
theorem HeaderReads : headerReadsPrm.Pure := by
  intro l hn
  unfold shibbolethlaw05_HeaderReads.f
  exact if_pos (fun x hx => u8b (hn.2 x hx))
end Go.Proofs.YtbcleckapamicaaDoor.Pure
namespace Go.Proofs.YtbcleckapamicaaDoor.Tab
open Go.RowKit Go.Proofs.YtbcleckapamicaaDoor.Gv
set_option linter.unusedVariables false
def laid {H : Type} : List (String × DataW H) := [((Rows.headerReadsRow.named).getD 0 default, Rows.laid_math_bits_deBruijn32tab), ((Rows.headerReadsRow.named).getD 1 default, Rows.laid_math_bits_deBruijn64tab)]
theorem g64 : Tryd.prog.globalNamed ((Rows.headerReadsRow.named).getD 1 default) = some 1 := by kernel_rfl
theorem ty64 : (Tryd.prog.globals[1]?).map (·.type) = some 146 := by kernel_rfl
theorem of_laid {W : World} (h : laidMet Tryd.prog laid W) : TB W := by
  have h2 : laidMet Tryd.prog [((Rows.headerReadsRow.named).getD 1 default, Lib.tabData .u8 tab64)] W := h.tail
  have ht : Lib.TabIs Tryd.prog W ((Rows.headerReadsRow.named).getD 1 default) .u8 tab64 := Lib.tabIs_of_head g64 ty64 Tryd.underlying146 Tryd.underlying5 (by kernel_rfl) (by kernel_rfl) h2
  exact ⟨fun i hi => ht.cell g64 i hi⟩
def tab32 : List Int := [0, 1, 28, 2, 29, 14, 24, 3, 30, 22, 20, 15, 25, 17, 4, 8, 31, 27, 13, 23, 21, 19, 16, 7, 26, 12, 18, 6, 11, 5, 10, 9]
noncomputable def laidWorld (os : Os) : World :=
  let w0 := World.holding Tryd.prog os ⟨#[], #[], []⟩
  { w0 with heap := (w0.heap.modify 0 fun
      | .cells _ t frozen => .cells (tab32.map fun z => Value.int .u8 z).toArray t frozen
      | o => o).modify 1 fun
      | .cells _ t frozen => .cells (tab64.map fun z => Value.int .u8 z).toArray t frozen
      | o => o }
set_option maxRecDepth 100000 in
theorem laidWorld_met (os : Os) (args : Array Value) : laidMet Tryd.prog laid ((laidWorld os).forCall (fun _ _ => 0) ⟨#[], args, []⟩).memory :=
  laidMet_of_run' 8 (by kernel_rfl) (by kernel_rfl)
end Go.Proofs.YtbcleckapamicaaDoor.Tab
