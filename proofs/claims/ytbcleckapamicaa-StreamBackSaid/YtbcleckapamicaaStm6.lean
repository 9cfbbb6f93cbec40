/- The streams' laws: what a law's own stream is; awake, walked. -/
import Derived.Test.YtbcleckapamicaaStm5
import Derived.Test.YtbcleckapamicaaQSsx1
namespace Go.Proofs.Ytbcleckapamicaa.Stm
open Go Go.RowKit Go.Proofs.YtbcleckapamicaaW.PrintWords Go.Proofs.YtbcleckapamicaaW.PrintLast Go.Proofs.YtbcleckapamicaaW.PrintMore
open Go.Proofs.Ytbcleckapamicaa.QSs (shibbolethlaw13_same.f shibbolethlaw13_same.calls)
set_option linter.unusedVariables false
set_option linter.unusedSimpArgs false

/-- A stream of the call's own (w0: the world in which the call began). -/
structure Tr (w0 w : World) (sb : Nat) (m : Option Nat) (t : Int) (F : Fn) (n : Nat) : Prop where
  st : St w sb m t F n
  lo : w0.heap.size ≤ sb
  mo : ∀ b, m = some b → w0.heap.size ≤ b
  bl : Below w0.heap.size w0 w
def F0 : Fn := fun _ => none
theorem FB0 : FB F0 := fun k c h => by cases h
theorem Tr.new (w : World) : Tr w (w.alloc (.cells #[.int .i64 0, .map none] 42)) w.heap.size none 0 F0 0 :=
  ⟨⟨by rw [World.cell?_alloc_at _ _ _ _ rfl]; rfl, by rw [World.cell?_alloc_at _ _ _ _ rfl]; rfl, World.frozen?_alloc_at _ _ _ _ rfl, World.frozen?_alloc_at _ _ _ _ rfl, fun _ _ => rfl⟩, Nat.le_refl _, (fun _ h => by cases h), (Below.refl _ _).alloc (Nat.le_refl _) _⟩
theorem Tr.below {w0 w w' : World} {sb : Nat} {m : Option Nat} {t : Int} {F : Fn} {n : Nat} (h : Tr w0 w sb m t F n) (hb : Below w.heap.size w w') : Tr w0 w' sb m t F n :=
  ⟨h.st.only (Only.of_below hb : Only (fun _ => False) w w') (fun h => h) (fun _ _ h => h), h.lo, h.mo, below_step h.bl hb⟩
theorem Tr.alloc {w0 w : World} {sb : Nat} {m : Option Nat} {t : Int} {F : Fn} {n : Nat} (h : Tr w0 w sb m t F n) (o : Obj) : Tr w0 (w.alloc o) sb m t F n := h.below ((Below.refl _ _).alloc (Nat.le_refl _) _)
/-- A store into a block that is none of the stream's. -/
theorem Tr.setFar {w0 w : World} {sb : Nat} {m : Option Nat} {t : Int} {F : Fn} {n : Nat} (h : Tr w0 w sb m t F n) {g : Nat} (hg : w0.heap.size ≤ g) (hs : g ≠ sb) (hm : some g ≠ m) (j : Nat) (u : Value) : Tr w0 (w.setCell ⟨g, j, none⟩ u) sb m t F n :=
  ⟨h.st.only (((Only.refl (fun k => k = g) w).setCell rfl u)) (fun e => hs e.symm) (fun b e e' => hm (by rw [e, e'])), h.lo, h.mo, h.bl.setCell hg u⟩
theorem Only.base {w w' : World} {sb : Nat} {m : Option Nat} {B : Nat} (h : Only (fun k => k = sb ∨ some k = m) w w') (hB : B ≤ w.heap.size) (hs : B ≤ sb) (hm : ∀ b, m = some b → B ≤ b) : Below B w w' :=
  h.below hB (fun k hk => by
    rcases hk with rfl | hk
    · exact hs
    · exact hm k hk.symm)
theorem Tr.after {w0 w w' : World} {sb : Nat} {m : Option Nat} {t t' : Int} {F F' : Fn} {n n' : Nat} (h : Tr w0 w sb m t F n) (hA : After w w' sb m t' F' n') : ∃ m', Tr w0 w' sb m' t' F' n' := by
  obtain ⟨m', h1, h2, h3⟩ := hA
  refine ⟨m', h1, h.lo, fun b e => ?_, h.bl.trans (h3.base h.bl.size h.lo h.mo)⟩
  rcases h2 with rfl | ⟨b', e', hb⟩
  · exact h.mo b e
  · rw [e'] at e
    injection e with e
    have := h.bl.size
    omega
theorem Tr.sep {w0 w : World} {sb : Nat} {m : Option Nat} {t : Int} {F : Fn} {n : Nat} (h : Tr w0 w sb m t F n) {g : Nat} (hg : w.heap.size ≤ g) (o : Nat) : ∀ ad, some (⟨g, o, none⟩ : Addr) = some ad → ¬ (ad.block = sb ∨ some ad.block = m) := by
  intro ad e
  injection e with e
  subst e
  rintro (e | e)
  · change g = sb at e
    have := h.st.lt
    omega
  · change some g = m at e
    subst e
    have := h.st.mlt
    omega
/-- A row that was there when the call began is none of the stream's. -/
theorem Tr.sepOld {w0 w : World} {sb : Nat} {m : Option Nat} {t : Int} {F : Fn} {n : Nat} (h : Tr w0 w sb m t F n) {A : Option Addr} {l : List Int} (hC : Kd.C (Kd.int .u8) w0 A l.length l) (hl : 0 < l.length) : ∀ ad, A = some ad → ¬ (ad.block = sb ∨ some ad.block = m) := by
  intro ad e
  obtain ⟨ad', e', hc⟩ := Kd.at_int hC 0 (by omega) (by omega)
  rw [e] at e'
  injection e' with e'
  subst e'
  have hlt := World.block_lt_of_cell? w0 _ hc
  have hlt : ad.block < w0.heap.size := by unfold Addr.add at hlt; split at hlt <;> exact hlt
  rintro (q | q)
  · have := h.lo
    omega
  · have := h.mo _ q.symm
    omega
/-- The row of a literal. -/
theorem lit_C (w : World) (l : List Int) (hl : l.length ≤ 9223372036854775807) : Kd.C (Kd.int .u8) (w.alloc (.cells (l.map (Value.int .u8)).toArray 5)) (some ⟨w.heap.size, 0, none⟩) l.length l := by
  refine ⟨rfl, hl, fun _ => ⟨_, rfl, fun j p hj => ⟨[.int .u8 p], rfl, rfl, fun i u hu => ?_⟩⟩⟩
  cases i with
  | zero =>
    injection hu with hu
    subst hu
    have e : (Addr.add ⟨w.heap.size, 0, none⟩ (j * (Kd.int .u8).sz + 0) : Addr) = ⟨w.heap.size, j, none⟩ := by
      show Addr.add ⟨w.heap.size, 0, none⟩ (j * 1 + 0) = _
      unfold Addr.add
      split
      · rename_i h
        have : j = 0 := by omega
        rw [this]
      · simp
    rw [e, World.cell?_alloc_at _ _ _ _ rfl]
    simp [hj]
  | succ i => simp at hu

/-- Put of a literal. -/
theorem Tr.put {w0 w : World} {sb : Nat} {m : Option Nat} {t : Int} {F : Fn} {n : Nat} (h : Tr w0 w sb m t F n) (l : List Int) (p : Int) (g c : Nat) (hg : g = w.heap.size) (ht : 0 ≤ t) (ht' : t ≤ 1099511627776) (hl : l.length ≤ 1000) (hB : Bytes l) (hn : n ≤ 1000000) :
    Calls Try.prog 25 #[.pointer (some ⟨sb, 0, none⟩), .int .i64 p, .slice (some ⟨g, 0, none⟩) l.length c] (w.alloc (.cells (l.map (Value.int .u8)).toArray 5)) fun e w' => e = .returned (.int .i64 (putE F t p l)) ∧ ∃ m', Tr w0 w' sb m' t (putF F t p l) (n + l.length) := by
  subst hg
  refine (put_calls (h.alloc (.cells (l.map (Value.int .u8)).toArray 5)).st (some ⟨w.heap.size, 0, none⟩) c l p (lit_C w l (by omega)) ht ht' (by omega) hB (h.sep (Nat.le_refl _) 0) (by omega)).mono ?_
  rintro e w' ⟨rfl, hA⟩
  exact ⟨rfl, (h.alloc _).after hA⟩

theorem fits0 (p : Int) (l : List Int) (j : Nat) : fits F0 p l j := fun i hi c hc => by cases hc
theorem putE_ok {F : Fn} {t p : Int} {l : List Int} (h0 : 0 ≤ p) (h1 : p ≤ 1073741824) (h2 : ¬ (0 < l.length ∧ p + l.length - t > 4096)) (h3 : fits F p l l.length) : putE F t p l = 0 := by
  unfold putE
  rw [if_neg (by omega), if_neg h2, if_pos h3]
theorem putF_ok {F : Fn} {t p : Int} {l : List Int} (h : putE F t p l = 0) : putF F t p l = stored F t p l l.length := if_pos h

def G1 : Fn := stored F0 0 1 [0, 0, 1] 3
def G2 : Fn := stored G1 0 0 [5] 1
def G3 : Fn := stored G2 0 4 [9] 1
theorem P1 : putE F0 0 1 [0, 0, 1] = 0 := putE_ok (by omega) (by omega) (by simp) (fits0 _ _ _)
theorem P2 : putE G1 0 0 [5] = 0 := putE_ok (by omega) (by omega) (by simp) (fun i hi c hc => by
  have : i = 0 := by simp at hi; omega
  subst this
  cases hc)
theorem P3 : putE G2 0 4 [9] = 0 := putE_ok (by omega) (by omega) (by simp) (fun i hi c hc => by
  have : i = 0 := by simp at hi; omega
  subst this
  cases hc)
theorem E1 : putF F0 0 1 [0, 0, 1] = G1 := putF_ok P1
theorem E2 : putF G1 0 0 [5] = G2 := putF_ok P2
theorem E3 : putF G2 0 4 [9] = G3 := putF_ok P3
theorem FB3 : FB G3 := ((FB0.stored 0 1 (l := [0, 0, 1]) (by decide) 3 (by decide)).stored 0 0 (l := [5]) (by decide) 1 (by decide)).stored 0 4 (l := [9]) (by decide) 1 (by decide)
theorem N3 : nextR G3 0 = ([5, 0, 0, 1, 9], 0) := by decide +kernel
theorem same5 : shibbolethlaw13_same.f 20 [5, 0, 0, 1, 9] [5, 0, 0, 1, 9] = some true := by decide +kernel

set_option maxHeartbeats 400000 in
set_option maxRecDepth 100000 in
theorem awake_calls (w : World) : Calls Try.prog 28 #[] w fun e w' => e = .returned (.bool true) ∧ Below w.heap.size w w' := by
  have T0 := Aside0.mk (Tr.new w)
  go_enter Try.func28, Try.ntmps28
  go_wp2_with (first
    | (go_at_call 25; refine (T0.out.put [0, 0, 1] 1 (w.heap.size + 1) _ (by simp) (by omega) (by omega) (by decide) (by decide) (by decide)).mono ?_; rintro e1 w1 ⟨rfl, hA⟩; rw [P1]; rw [E1] at hA; obtain ⟨m1, hT⟩ := hA; have T1 := Aside0.mk hT; clear hT; clear T0)
    | (go_at_call 25; refine (T1.out.put [5] 0 _ _ rfl (by omega) (by omega) (by decide) (by decide) (by decide)).mono ?_; rintro e2 w2 ⟨rfl, hA⟩; rw [P2]; rw [E2] at hA; obtain ⟨m2, hT⟩ := hA; have T2 := Aside0.mk hT; clear hT; clear T1)
    | (go_at_call 25; refine (T2.out.put [9] 4 _ _ rfl (by omega) (by omega) (by decide) (by decide) (by decide)).mono ?_; rintro e3 w3 ⟨rfl, hA⟩; rw [P3]; rw [E3] at hA; obtain ⟨m3, hT⟩ := hA; have T3 := Aside0.mk hT; clear hT; clear T2)
    | (go_at_call 22; refine (next_calls T3.out.st FB3 (by omega) (by omega)).mono ?_; unfold NextPost; rw [N3]; rintro e4 w4 ⟨v4, rfl, hR, hS, hO⟩; obtain ⟨A4, c4, rfl, l4, k4⟩ := Kd.R_reads hR; have K4 := Aside0.mk k4; have L4 := Aside0.mk l4;
       have B4 := Aside0.mk (T3.out.bl.trans (hO.base T3.out.bl.size T3.out.lo T3.out.mo)); have S4 := Aside0.mk hS; clear hR k4 l4 hS hO)
    | (go_at_call 24; refine (shibbolethlaw13_same.calls 20 _ _ [5, 0, 0, 1, 9] _ _ [5, 0, 0, 1, 9] true (w4.alloc (.cells ([5, 0, 0, 1, 9].map (Value.int .u8)).toArray 5)) (Kd.C_below K4.out ((Below.refl _ _).alloc (Nat.le_refl _) _)) L4.out (lit_C _ _ (by decide)) (by decide) same5).mono ?_; rintro e5 w5 ⟨rfl, hd⟩;
       have B5 := Aside0.mk (below_step (B4.out.alloc B4.out.size _) hd.below); have S5 := Aside0.mk (S4.out.only (Only.of_below (below_step ((Below.refl w4.heap.size w4).alloc (Nat.le_refl _) _) hd.below) : Only (fun _ => False) w4 w5) (fun h => h) (fun _ _ h => h)); clear hd)
    | (go_at_call 27; refine (taken_calls S5.out).mono ?_; rintro e6 w6 ⟨rfl, rfl⟩))
  go_ret
  exact ⟨rfl, B5.out⟩
end Go.Proofs.Ytbcleckapamicaa.Stm
