/- A stream that is not there; an act's cells; two streams side by side. -/
import Derived.Test.YtbcleckapamicaaRst3
namespace Go.Proofs.Ytbcleckapamicaa.Act
open Go Go.RowKit Go.Proofs.YtbcleckapamicaaW.PrintWords Go.Proofs.YtbcleckapamicaaW.PrintLast Go.Proofs.YtbcleckapamicaaW.PrintMore
open Go.Proofs.Ytbcleckapamicaa.Stm (Bytes bytes_rd Only info5 wf64 St Tr FB putE putF nextR cut cut_zero front_le After NextPost)
open Go.Proofs.Ytbcleckapamicaa.Rst
set_option linter.unusedVariables false
set_option linter.unusedSimpArgs false

theorem put_nil (w : World) (p : Int) (A : Option Addr) (n c : Nat) : Calls Try.prog 25 #[.pointer none, .int .i64 p, .slice A n c] w fun e w' => e = .returned (.int .i64 1) ∧ w' = w := by
  go_enter Try.func25, Try.ntmps25
  go_wp2
  go_ret
  exact ⟨rfl, rfl⟩
theorem next_nil (w : World) : Calls Try.prog 22 #[.pointer none] w fun e w' => e = .returned (.tuple #[.slice none 0 0, .int .i64 1]) ∧ w' = w := by
  go_enter Try.func22, Try.ntmps22
  go_wp2
  go_ret2
  exact ⟨rfl, rfl⟩
theorem taken_nil (w : World) : Calls Try.prog 27 #[.pointer none] w fun e w' => e = .returned (.int .i64 0) ∧ w' = w := by
  go_enter Try.func27, Try.ntmps27
  go_wp2
  go_ret
  exact ⟨rfl, rfl⟩

abbrev KA : Kd (Bool × Int × List Int) := Kd.pair Kd.bool (Kd.pair (Kd.int .i64) (Kd.slice 5 (Kd.int .u8)))
theorem act_at {w : World} {A : Option Addr} {l : List (Bool × Int × List Int)} (h : KA.C w A l.length l) (j : Nat) (hj : j < l.length) : ∃ (ad : Addr) (b : Bool) (p : Int) (d : List Int) (A2 : Option Addr) (c2 : Nat), A = some ad ∧ l[j]? = some (b, p, d) ∧
    w.cell? (ad.add (j * 3)) = some (.bool b) ∧ w.cell? (ad.add (j * 3 + 1)) = some (.int .i64 p) ∧ w.cell? (ad.add (j * 3 + 2)) = some (.slice A2 d.length c2) ∧ d.length ≤ c2 ∧ (Kd.int .u8).C w A2 d.length d := by
  obtain ⟨ad, c, e, _, hK, hc⟩ := Kd.C_get h (false, 0, []) (j : Int) (by omega) (by omega)
  rw [Int.toNat_natCast] at hK hc
  have hg : l.getD j (false, 0, []) = l[j] := by simp [List.getD_eq_getElem?_getD, List.getElem?_eq_getElem hj]
  rw [hg] at hK
  obtain ⟨c1, cr, rfl, h1, c3, c4, rfl, h2, A2, cap, rfl, hle, hC⟩ := hK
  have h1' : c1 = [.bool l[j].1] := h1
  have h2' : c3 = [.int .i64 l[j].2.1] := h2
  subst h1'
  subst h2'
  have hc : ∀ i u, ([Value.bool l[j].1, .int .i64 l[j].2.1, .slice A2 l[j].2.2.length cap] : List Value)[i]? = some u → w.cell? (ad.add (j * 3 + i)) = some u := hc
  exact ⟨ad, l[j].1, l[j].2.1, l[j].2.2, A2, cap, e, List.getElem?_eq_getElem hj, hc 0 _ rfl, hc 1 _ rfl, hc 2 _ rfl, hle, hC⟩

theorem act_cells {w : World} {A : Option Addr} {l : List (Bool × Int × List Int)} (h : KA.C w A l.length l) (j : Nat) (hj : j < l.length) : ∃ (ad : Addr) (b : Bool) (p : Int) (d : List Int) (A2 : Option Addr) (c2 eb eo : Nat), A = some ad ∧ l[j]? = some (b, p, d) ∧ ad.add (j * 3) = ⟨eb, eo, none⟩ ∧
    w.cell? ⟨eb, eo, none⟩ = some (.bool b) ∧ w.cell? ⟨eb, eo + 1, none⟩ = some (.int .i64 p) ∧ w.cell? ⟨eb, eo + 2, none⟩ = some (.slice A2 d.length c2) ∧ d.length ≤ c2 ∧ (Kd.int .u8).C w A2 d.length d := by
  obtain ⟨ad, b, p, d, A2, c2, e, el, h0, h1, h2, hle, hC⟩ := act_at h j hj
  have hs := World.cell?_spot h0
  have e0 : ad.add (j * 3) = ⟨ad.block, ad.off + j * 3, none⟩ := by
    obtain ⟨ab, ao, as_⟩ := ad
    unfold Addr.add at hs ⊢
    split
    · rename_i hz
      rw [if_pos hz] at hs
      simp only [] at hs
      subst hs
      simp [hz]
    · rfl
  have e1 : ad.add (j * 3 + 1) = ⟨ad.block, ad.off + j * 3 + 1, none⟩ := by
    unfold Addr.add
    rw [if_neg (by omega)]
    rfl
  have e2 : ad.add (j * 3 + 2) = ⟨ad.block, ad.off + j * 3 + 2, none⟩ := by
    unfold Addr.add
    rw [if_neg (by omega)]
    rfl
  rw [e0] at h0
  rw [e1] at h1
  rw [e2] at h2
  exact ⟨ad, b, p, d, A2, c2, ad.block, ad.off + j * 3, e, el, e0, h0, h1, h2, hle, hC⟩

/-- Two streams of the call's own, side by side. -/
structure Both (w0 w : World) (sb rb : Nat) (m : Option Nat) (t : Int) (F : Stm.Fn) (n : Nat) (ks bs : List Int) (va vb : Value) : Prop where
  tr : Tr w0 w sb m t F n
  sr : Sr w w0.heap.size rb t ks bs va vb
  fr : FR ks bs = F
  low : ∀ k, k < t → F k = none
  ne : sb ≠ rb
  nm : m ≠ some rb
  sa : ∀ k, own2 va vb k → k ≠ sb ∧ some k ≠ m
  t0 : 0 ≤ t
theorem Both.fb {w0 w : World} {sb rb : Nat} {m : Option Nat} {t : Int} {F : Stm.Fn} {n : Nat} {ks bs : List Int} {va vb : Value} (h : Both w0 w sb rb m t F n ks bs va vb) : FB F := by rw [← h.fr]; exact FR_FB _ _ h.sr.by_
theorem Both.below {w0 w w' : World} {sb rb : Nat} {m : Option Nat} {t : Int} {F : Stm.Fn} {n : Nat} {ks bs : List Int} {va vb : Value} (h : Both w0 w sb rb m t F n ks bs va vb) (hb : Below w.heap.size w w') : Both w0 w' sb rb m t F n ks bs va vb :=
  ⟨h.tr.below hb, h.sr.below hb, h.fr, h.low, h.ne, h.nm, h.sa, h.t0⟩
/-- The program's stream has turned; the document's not yet. -/
structure Half (w0 w : World) (sb rb : Nat) (m : Option Nat) (t t' : Int) (F F' : Stm.Fn) (n : Nat) (ks bs : List Int) (va vb : Value) : Prop where
  tr : Tr w0 w sb m t' F' n
  sr : Sr w w0.heap.size rb t ks bs va vb
  fr : FR ks bs = F
  ne : sb ≠ rb
  nm : m ≠ some rb
  sa : ∀ k, own2 va vb k → k ≠ sb ∧ some k ≠ m
theorem Both.new (w : World) : Both w ((w.alloc (.cells #[.int .i64 0, .map none] 42)).alloc (.cells #[.int .i64 0, .slice none 0 0, .slice none 0 0] 46)) w.heap.size (w.heap.size + 1) none 0 Stm.F0 0 [] [] (.slice none 0 0) (.slice none 0 0) := by
  refine ⟨(Tr.new w).alloc _, ?_, FR_nil, fun _ _ => rfl, by omega, by simp, fun k hk => ?_, by omega⟩
  · refine ⟨?_, ?_, ?_, ?_, ?_, ?_, Kd.R_nil _ _ _ _ _, Kd.R_nil _ _ _ _ _, by simp [Value.ownBlock], by simp [Value.ownBlock], fun k h => by simp [Value.ownBlock] at h, by omega, by simp; omega, rfl, fun x hx => by simp at hx⟩
    all_goals first | (rw [World.cell?_alloc_at _ _ _ _ (by simp)]; rfl) | exact World.frozen?_alloc_at _ _ _ _ (by simp)
  · rcases hk with hk | hk <;> simp [Value.ownBlock] at hk
theorem own_lt2 {w : World} {base rb : Nat} {t : Int} {ks bs : List Int} {va vb : Value} (h : Sr w base rb t ks bs va vb) (k : Nat) (hk : own2 va vb k) : k < w.heap.size := hk.elim (row_lt h.ra k) (row_lt h.rb_ k)
theorem Both.half {w0 w w' : World} {sb rb : Nat} {m : Option Nat} {t t' : Int} {F F' : Stm.Fn} {n n' : Nat} {ks bs : List Int} {va vb : Value} (h : Both w0 w sb rb m t F n ks bs va vb) (hA : After w w' sb m t' F' n') : ∃ m', Half w0 w' sb rb m' t t' F F' n' ks bs va vb := by
  obtain ⟨m', h1, h2, h3⟩ := hA
  have hT := h.tr.after ⟨m', h1, h2, h3⟩
  have hnb : ¬ (rb = sb ∨ some rb = m) := fun e => e.elim (fun e => h.ne e.symm) (fun e => h.nm e.symm)
  have hs := h.sr.only h3 hnb (fun k hk e => by
    have := h.sa k (Or.inl hk)
    exact e.elim this.1 this.2) (fun k hk e => by
    have := h.sa k (Or.inr hk)
    exact e.elim this.1 this.2)
  refine ⟨m', ⟨h1, h.tr.lo, fun b e => ?_, h.tr.bl.trans (Stm.Only.base h3 h.tr.bl.size h.tr.lo h.tr.mo)⟩, hs, h.fr, h.ne, ?_, fun k hk => ⟨(h.sa k hk).1, ?_⟩⟩
  · rcases h2 with rfl | ⟨b', e', hb⟩
    · exact h.tr.mo b e
    · rw [e'] at e
      injection e with e
      have := h.tr.bl.size
      omega
  · rcases h2 with rfl | ⟨b', e', hb⟩
    · exact h.nm
    · intro e
      rw [e'] at e
      injection e with e
      have := h.sr.lt
      omega
  · rcases h2 with rfl | ⟨b', e', hb⟩
    · exact (h.sa k hk).2
    · intro e
      rw [e'] at e
      injection e with e
      have := own_lt2 h.sr k hk
      omega
theorem Half.below {w0 w w' : World} {sb rb : Nat} {m : Option Nat} {t t' : Int} {F F' : Stm.Fn} {n : Nat} {ks bs : List Int} {va vb : Value} (h : Half w0 w sb rb m t t' F F' n ks bs va vb) (hb : Below w.heap.size w w') : Half w0 w' sb rb m t t' F F' n ks bs va vb :=
  ⟨h.tr.below hb, h.sr.below hb, h.fr, h.ne, h.nm, h.sa⟩
theorem Half.both {w0 w w' : World} {sb rb N : Nat} {m : Option Nat} {t t' : Int} {F F' : Stm.Fn} {n : Nat} {ks bs : List Int} {va vb : Value} (h : Half w0 w sb rb m t t' F F' n ks bs va vb) (hA : RAfter w w' w0.heap.size rb t' va vb F' N) (hlow : ∀ k, k < t' → F' k = none) (ht : 0 ≤ t') :
    ∃ ks' bs' va' vb', Both w0 w' sb rb m t' F' n ks' bs' va' vb' ∧ ks'.length ≤ N := by
  obtain ⟨ks', bs', va', vb', h1, h2, h3, h4, h5, h6⟩ := hA
  have hns : ¬ (sb = rb ∨ own2 va vb sb) := fun e => e.elim h.ne (fun e => (h.sa sb e).1 rfl)
  have hnm : ∀ b, m = some b → ¬ (b = rb ∨ own2 va vb b) := fun b e q => q.elim (fun q => h.nm (by rw [e, q])) (fun q => (h.sa b q).2 e.symm)
  refine ⟨ks', bs', va', vb', ⟨⟨h.tr.st.only h6 hns hnm, h.tr.lo, h.tr.mo, h.tr.bl.trans (h6.below h.tr.bl.size (fun k hk => ?_))⟩, h1, h2, hlow, h.ne, h.nm, fun k hk => ?_, ht⟩, h3⟩
  · rcases hk with rfl | hk | hk
    · exact h.sr.lo
    · exact row_ge h.sr.ra k hk
    · exact row_ge h.sr.rb_ k hk
  · have big : w.heap.size ≤ k → k ≠ sb ∧ some k ≠ m := fun hge => by
      refine ⟨fun e => by have := h.tr.st.lt; omega, fun e => ?_⟩
      have h7 := h.tr.st
      rw [← e] at h7
      have := h7.mlt
      omega
    rcases hk with hk | hk
    · rcases h4 k hk with q | q
      · exact h.sa k (Or.inl q)
      · exact big q
    · rcases h5 k hk with q | q
      · exact h.sa k (Or.inr q)
      · exact big q
end Go.Proofs.Ytbcleckapamicaa.Act
