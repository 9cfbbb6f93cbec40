/- slices.Insert of one span: the four roads. -/
import Derived.Test.YtpihkmpcnkhnfaaSp0
import Derived.Shelf.Spec.SlicesInsert
namespace Go.Proofs.Ytpihkmpcnkhnfaa.Sp
open Go Go.RowKit Go.Lib Go.Proofs.YtpihkmpcnkhnfaaW.PrintWords
open Go.Proofs.Ytpihkmpcnkhnfaa.Onl (Only)
set_option linter.unusedVariables false
set_option linter.unusedSimpArgs false

/-- A row, or none. -/
def Row (W : World) (A : Option Addr) (c : Nat) (l : List Spn) : Prop := (A = none ∧ c = 0 ∧ l = []) ∨ ∃ b off, A = some ⟨b, off, none⟩ ∧ RowAt W b off c l
def rb (A : Option Addr) : Option Nat := A.map (·.block)
/-- What a change of a row leaves. -/
def Ins (W : World) (A : Option Addr) (l' : List Spn) (e : Ending) (W' : World) : Prop :=
  ∃ A' c', e = .returned (.slice A' l'.length c') ∧ Row W' A' c' l' ∧ Only (fun k => some k = rb A) W W' ∧ (A' = A ∨ ∃ b, A' = some ⟨b, 0, none⟩ ∧ W.heap.size ≤ b)

/-- A new block whose first cells are the spans'. -/
theorem RowAt.alloc {W : World} {c : Nat} {l : List Spn} (cs : Array Value) (t : TypeId) (hl : l.length ≤ c) (hc : c ≤ 9223372036854775807) (h0 : 0 < c) (hs : 2 * c ≤ cs.size) (hat : ∀ (j : Nat) (v : Value), (enc l)[j]? = some v → cs[j]? = some v) :
    RowAt (W.alloc (.cells cs t)) W.heap.size 0 c l :=
  ⟨⟨cs, t, World.alloc_heap_new _ _, by omega, by omega⟩, fun j v hj => by rw [World.cell?_alloc_at _ _ _ _ rfl, Nat.zero_add]; exact hat j v hj, hl, hc⟩
theorem maxLen_le {n : Nat} (h : n ≤ maxLen) : n ≤ 9223372036854775807 := by unfold maxLen at h; omega

theorem only_new {p : Nat → Prop} {a : World} (b : Nat) (hb : a.heap.size ≤ b) : ∀ (vs : List Value) (w : World) (o : Nat), Only p a w → Only p a (w.setCells b o vs)
  | [], _, _, h => h
  | v :: vs, w, o, h => only_new b hb vs _ _ (h.setNew (ad := ⟨b, o, none⟩) hb v)

theorem splice {α : Type} (a d : List α) (k : Nat) (hk : a.length = k) : a.take k ++ d ++ a.drop (k + d.length) = a ++ d := by
  have e1 : a.take k = a := List.take_of_length_le (by omega)
  have e2 : a.drop (k + d.length) = [] := List.drop_eq_nil_of_le (by omega)
  rw [e1, e2, List.append_nil]

abbrev tS : TypeId := 24
abbrev tE : TypeId := 30

/-- The value to be inserted, as append takes it. -/
theorem src1 {W : World} {vb : Nat} {x : Spn} (hv : RowAt W vb 0 1 [x]) (size : Nat) (h2 : size = 2) : Src Try.prog size 24 (.slice (some ⟨vb, 0, none⟩) 1 1) 1 (enc [x]) W := by
  subst h2
  exact Src.ofSlice W slice_span ⟨vb, 0, none⟩ 1 1 (enc [x]) rfl (fun j u hj => by rw [Addr.add_lit]; exact hv.at_ j u hj) (enc_one _)

set_option maxHeartbeats 4000000 in
set_option maxRecDepth 100000 in
/-- At the end, there is room. -/
theorem insert_end_room {W : World} {b off c vb : Nat} {l : List Spn} {x : Spn} (h : RowAt W b off c l) (hv : RowAt W vb 0 1 [x]) (hc : l.length + 1 ≤ c) :
    Calls Try.prog 27 #[.slice (some ⟨b, off, none⟩) l.length c, .int .i64 l.length, .slice (some ⟨vb, 0, none⟩) 1 1] W (Ins W (some ⟨b, off, none⟩) (l ++ [x])) := by
  obtain ⟨i, hi, hz, hs, hb⟩ := info_parts info_span
  have hlen : (enc [x]).length = 2 := rfl
  have hrun : ∀ ty, (Builtin.append_ #[24, 24] ty #[.slice (some ⟨b, off, none⟩) l.length c, .slice (some ⟨vb, 0, none⟩) 1 1]).run Try.prog W = .ok (.slice (some ⟨b, off, none⟩) (l.length + 1) c) (W.setCells b (off + 2 * l.length) (enc [x])) := fun ty => by
    have := run_append_room_src W 24 24 ty 30 i slice_span hi b off l.length c _ 1 (enc [x]) (src1 hv _ hs) hc
      (fun j hj => by rw [hs, Nat.add_assoc]; exact h.is _ (by rw [hlen] at hj; omega)) (fun j hj => h.fz _)
    rw [this, hs, Nat.mul_comm l.length 2]
  have hP := h.put l.length [x] (Nat.le_refl _) (by simpa using hc)
  rw [List.take_of_length_le (Nat.le_refl _), List.drop_eq_nil_of_le (by simp), List.append_nil] at hP
  have hO := only_setCells b (enc [x]) W (off + 2 * l.length)
  have hcap := h.cap
  generalize W.setCells b (off + 2 * l.length) (enc [x]) = W1 at *
  obtain ⟨n, hn⟩ : ∃ n, l.length = n := ⟨_, rfl⟩
  have HP := Aside0.mk (show Ins W (some ⟨b, off, none⟩) (l ++ [x]) (.returned (.slice (some ⟨b, off, none⟩) (n + 1) c)) W1 from
    ⟨some ⟨b, off, none⟩, c, by simp [hn], .inr ⟨b, off, rfl, hP⟩, hO.imp (fun k _ e => by rw [e]; rfl), .inl rfl⟩)
  rw [hn] at hrun hc ⊢
  have hb4 : ¬ (c = n) := by omega
  clear hP hO h hv hi hz hs hb hlen hn
  go_enter Try.func27, Try.ntmps27
  go_wp2_with (at_builtin; refine Lib.wpList_append_run _ rfl _ _ _ _ rfl _ _ rfl rfl _ _ (hrun _) ?_)
  go_ret
  exact HP.out

theorem zeros_size (n : Nat) : (Builtin.zeroCells (Value.agg #[.int .i64 0, .int .i64 0]).cells n).size = 2 * n := by
  simp [Builtin.zeroCells, Value.cells]; omega
/-- What a grown row holds. -/
theorem RowAt.grown {W : World} {G n : Nat} {l : List Spn} {z : Array Value} (hl : l.length = n) (hG : n ≤ G) (hn : 0 < n) (hm : n ≤ maxLen) (hGm : G ≤ maxLen) (hz : z.size = 2 * (G - n)) :
    RowAt (W.drew.alloc (.cells ((enc l).toArray ++ z) 30)) W.heap.size 0 G l := by
  have hh : W.drew.heap.size = W.heap.size := rfl
  rw [← hh]
  have hel := enc_length l
  refine RowAt.alloc _ _ (by omega) (by unfold maxLen at hGm; omega) (by omega) (by simp; omega) (fun j v hj => ?_)
  obtain ⟨hlt, e⟩ := List.getElem?_eq_some_iff.1 hj
  rw [Array.getElem?_append_left (by simpa using hlt), List.getElem?_toArray]
  exact hj
theorem only_alloc (p : Nat → Prop) (W : World) (o : Obj) : Only p W (W.drew.alloc o) := ((Only.refl p W).drew).alloc o

set_option maxHeartbeats 4000000 in
set_option maxRecDepth 100000 in
/-- At the end, there is no room (the nil row too). -/
theorem insert_end_grow {W : World} {A : Option Addr} {c vb : Nat} {l : List Spn} {x : Spn} (h : Row W A c l) (hv : RowAt W vb 0 1 [x]) (hc : c < l.length + 1) (hl : l.length ≤ 1000) :
    Calls Try.prog 27 #[.slice A l.length c, .int .i64 l.length, .slice (some ⟨vb, 0, none⟩) 1 1] W (Ins W A (l ++ [x])) := by
  obtain ⟨i, hi, hz, hs, hb⟩ := info_parts info_span
  have hold : (Builtin.firstCells i.size l.length (.slice A l.length c)).run Try.prog W.drew = .ok (enc l).toArray W.drew := by
    rw [hs]
    rcases h with ⟨rfl, rfl, rfl⟩ | ⟨b, off, rfl, h⟩
    · exact run_firstCells_none W.drew 2 0 0 0
    · exact run_firstCells_some W.drew 2 l.length ⟨b, off, none⟩ l.length c (enc l) (by rw [enc_length]; omega) (fun j v hj => by rw [Addr.add_lit]; exact h.at_ j v hj)
  have hlc : l.length ≤ c := by
    rcases h with ⟨rfl, rfl, rfl⟩ | ⟨b, off, rfl, h⟩
    · simp
    · exact h.le
  have hrun : ∀ ty, (Builtin.append_ #[24, 24] ty #[.slice A l.length c, .slice (some ⟨vb, 0, none⟩) 1 1]).run Try.prog W = _ := fun ty =>
    run_append_grow_src W 24 24 ty 30 i _ slice_span hi hz A l.length c (enc l) hold _ 1 (enc [x]) (src1 hv _ hs) hc (by omega) (by rw [hb]; exact growslice_fits hc (by omega))
  have hG := grownCap_ge W (l.length + 1) c 30
  have hGm := grownCap_le_maxLen W (l.length + 1) c 30 (by unfold maxLen; omega)
  generalize grownCap W (l.length + 1) c 30 = G at *
  rw [← enc_append] at hrun
  have hP := RowAt.grown (W := W) (G := G) (n := l.length + 1) (l := l ++ [x]) (z := Builtin.zeroCells (Value.agg #[.int .i64 0, .int .i64 0]).cells (G - (l.length + 1))) (by simp) hG (by omega) (by unfold maxLen; omega) hGm (zeros_size _)
  have hO := only_alloc (fun k => some k = rb A) W (.cells ((enc (l ++ [x])).toArray ++ Builtin.zeroCells (Value.agg #[.int .i64 0, .int .i64 0]).cells (G - (l.length + 1))) 30)
  generalize W.drew.alloc (.cells ((enc (l ++ [x])).toArray ++ Builtin.zeroCells (Value.agg #[.int .i64 0, .int .i64 0]).cells (G - (l.length + 1))) 30) = W1 at *
  obtain ⟨n, hn⟩ : ∃ n, l.length = n := ⟨_, rfl⟩
  have HP := Aside0.mk (show Ins W A (l ++ [x]) (.returned (.slice (some ⟨W.heap.size, 0, none⟩) (n + 1) G)) W1 from
    ⟨some ⟨W.heap.size, 0, none⟩, G, by simp [hn], .inr ⟨W.heap.size, 0, rfl, hP⟩, hO, .inr ⟨_, rfl, Nat.le_refl _⟩⟩)
  rw [hn] at hrun hc hlc ⊢
  obtain rfl : c = n := by omega
  clear hP hO h hv hi hz hs hb hn hold hG hGm
  rcases A with _ | ⟨ab, ao, as_⟩
  · go_enter Try.func27, Try.ntmps27
    go_wp2_with (at_builtin; refine Lib.wpList_append_run _ rfl _ _ _ _ rfl _ _ rfl rfl _ _ (hrun _) ?_)
    go_ret
    exact HP.out
  · go_enter Try.func27, Try.ntmps27
    go_wp2_with (at_builtin; refine Lib.wpList_append_run _ rfl _ _ _ _ rfl _ _ rfl rfl _ _ (hrun _) ?_)
    go_ret
    exact HP.out

theorem size_span : ∀ w, (Go.sizeOf 30).run Try.prog w = .ok 2 w := fun w => by
  obtain ⟨i, hi, hz, hs, hb⟩ := info_parts info_span
  simp [sizeOf, typeInfo, hi, hs]
theorem setCells_drew (b o : Nat) (vs : List Value) (w : World) : w.drew.setCells b o vs = (w.setCells b o vs).drew := (drew_setCells b vs o w).symm

set_option maxHeartbeats 4000000 in
set_option maxRecDepth 100000 in
/-- In the midst, there is room. -/
theorem insert_shift {W : World} {b off c vb i : Nat} {l : List Spn} {x : Spn} (h : RowAt W b off c l) (hv : RowAt W vb 0 1 [x]) (hne : vb ≠ b) (hi : i < l.length) (hc : l.length + 1 ≤ c) :
    Calls Try.prog 27 #[.slice (some ⟨b, off, none⟩) l.length c, .int .i64 i, .slice (some ⟨vb, 0, none⟩) 1 1] W (Ins W (some ⟨b, off, none⟩) (l.take i ++ [x] ++ l.drop i)) := by
  obtain ⟨tA, kA, hsa, hkA⟩ := hv.shape
  obtain ⟨tB, kB, hsb, hkB⟩ := h.shape
  have hov : ∀ lb cb, (callFunc 28 #[.slice (some ⟨vb, 0, none⟩) 1 1, .slice (some ⟨b, off + (i + 1) * 2, none⟩) lb cb]).run Try.prog W = .ok (.value (.bool false)) W := fun lb cb => by
    rw [run_callFunc_extern Try.func28 (by kernel_rfl) (by kernel_rfl) (by kernel_rfl) (e := Extern.SlicesOverlaps.overlaps #[24, 24] #[4]) (by kernel_rfl),
      Lib.run_overlaps_apart W 24 4 30 slice_span 2 size_span ⟨vb, 0, none⟩ ⟨b, off + (i + 1) * 2, none⟩ 1 1 lb cb hne tA tB kA kB hsa hsb hkB (hv.fz _) (hv.fz _)]
    rfl
  have mixed : Try.prog.follows .mixedOrders = true := by kernel_rfl
  have hdl : (l.drop i).length = l.length - i := List.length_drop
  -- the elements are shifted
  have hD : RowAt W.drew b off c l := h.move rfl
  have hvD : RowAt W.drew vb 0 1 [x] := hv.move rfl
  have hcp1 : ∀ ty dc sc, (Builtin.copy_ #[24, 24] ty #[.slice (some ⟨b, off + (i + 1) * 2, none⟩) (l.length - i) dc, .slice (some ⟨b, off + i * 2, none⟩) (l.length + 1 - i) sc]).run Try.prog W.drew = .ok (goInt (l.drop i).length) (W.drew.setCells b (off + 2 * (i + 1)) (enc (l.drop i))) := fun ty dc sc => by
    rw [Nat.mul_comm (i + 1) 2, Nat.mul_comm i 2]
    exact run_copy_spans hD (i + 1) _ _ ⟨b, off + 2 * i, none⟩ _ _ (l.drop i) (by rw [hdl]; simp only [Nat.min_def]; split <;> omega) (by rw [hdl]; omega) (fun j v hj => by
      rw [Addr.add_lit, Nat.add_assoc]
      rw [enc_drop, List.getElem?_drop] at hj
      exact hD.at_ _ v hj) ty
  have h1 := hD.put (i + 1) (l.drop i) (by omega) (by rw [hdl]; omega)
  have hO1 := (Only.refl (fun k => k = b) W).drew.trans (only_setCells b (enc (l.drop i)) W.drew (off + 2 * (i + 1)))
  generalize hW1 : W.drew.setCells b (off + 2 * (i + 1)) (enc (l.drop i)) = W1 at *
  have hv1 : RowAt W1 vb 0 1 [x] := by
    rw [← hW1]
    exact hvD.move ((only_setCells b (enc (l.drop i)) W.drew (off + 2 * (i + 1))).block vb hvD.lt hne)
  have hcp2 : ∀ (W2 : World), W2 = W1 → ∀ ty dc, (Builtin.copy_ #[24, 24] ty #[.slice (some ⟨b, off + i * 2, none⟩) (l.length + 1 - i) dc, .slice (some ⟨vb, 0, none⟩) 1 1]).run Try.prog W2 = .ok (goInt 1) (W1.setCells b (off + 2 * i) (enc [x])) := fun W2 e ty dc => by
    subst e
    rw [Nat.mul_comm i 2]
    exact run_copy_spans h1 i _ _ ⟨vb, 0, none⟩ _ _ [x] (by simp only [Nat.min_def, List.length_singleton]; split <;> omega) (by simp; omega) (fun j v hj => by rw [Addr.add_lit]; exact hv1.at_ j v hj) ty
  have h2 := h1.put i [x] (by simp; omega) (by simp; omega)
  have hO2 := hO1.trans (only_setCells b (enc [x]) W1 (off + 2 * i))
  have hl2 : (l.take (i + 1) ++ l.drop i ++ l.drop (i + 1 + (l.drop i).length)).take i ++ [x] ++ (l.take (i + 1) ++ l.drop i ++ l.drop (i + 1 + (l.drop i).length)).drop (i + [x].length) = l.take i ++ [x] ++ l.drop i := by
    have e0 : l.drop (i + 1 + (l.drop i).length) = [] := List.drop_eq_nil_of_le (by rw [hdl]; omega)
    rw [e0, List.append_nil]
    have e1 : (l.take (i + 1) ++ l.drop i).take i = l.take i := by
      rw [List.take_append_of_le_length (by rw [List.length_take]; omega), List.take_take, Nat.min_eq_left (by omega)]
    have e2 : (l.take (i + 1) ++ l.drop i).drop (i + [x].length) = l.drop i := by
      have hlt : (l.take (i + 1)).length = i + 1 := by rw [List.length_take]; omega
      rw [List.length_singleton, List.drop_append_of_le_length (by omega), List.drop_eq_nil_of_le (by omega), List.nil_append]
    rw [e1, e2]
  rw [hl2] at h2
  have hcap := h.cap
  generalize hW2 : W1.setCells b (off + 2 * i) (enc [x]) = W2 at *
  obtain ⟨n, hn⟩ : ∃ n, l.length = n := ⟨_, rfl⟩
  have HP := Aside0.mk (show Ins W (some ⟨b, off, none⟩) (l.take i ++ [x] ++ l.drop i) (.returned (.slice (some ⟨b, off, none⟩) (n + 1) c)) W2 from
    ⟨some ⟨b, off, none⟩, c, by simp [← hn]; omega, .inr ⟨b, off, rfl, h2⟩, hO2.imp (fun k _ e => by rw [e]; rfl), .inl rfl⟩)
  rw [hdl] at hcp1
  rw [hn] at hcp1 hcp2 hi hc ⊢
  have hz2 : ¬ ((i : Int) = (n : Int)) := by omega
  have hb1 : (0 : Int) ≤ (i : Int) + 1 := by omega
  have hin : i ≤ n := by omega
  have htn : ((i : Int) + 1).toNat = i + 1 := by omega
  have hb2 : ¬ (c = i + 1) := by omega
  have hb3 : (i : Int) ≤ (n : Int) + 1 := by omega
  have hb4 : ¬ (c = i) := by omega
  have hw1 : IntKind.i64.wrap ((i : Int) + 1) = (i : Int) + 1 := by rw [IntKind.wrap_i64]; omega
  have HW1 := Aside0.mk hW1
  clear hW1 hW2 h h1 h2 hD hvD hv hv1 hO1 hO2 hl2 hdl hn hsa hsb hkA hkB
  go_enter Try.func27, Try.ntmps27
  go_wp2_with (simp only [hov])
  go_region_law_o (refine step_copy_runI rfl _ _ 24 24 rfl _ _ (by simp [Act.eval, Act.put]) (by simp [Act.eval, Act.put]) (hcp1 _ _ _) ?_)
  go_wp2_with (refine wpList_copy_runI _ rfl _ _ 24 24 rfl _ _ rfl rfl (hcp2 _ rfl _ _) ?_)
  go_ret
  exact HP.out

set_option maxHeartbeats 4000000 in
set_option maxRecDepth 100000 in
/-- In the midst, there is no room: a new row. -/
theorem insert_grow {W : World} {b off c vb i : Nat} {l : List Spn} {x : Spn} (h : RowAt W b off c l) (hv : RowAt W vb 0 1 [x]) (hi : i < l.length) (hc : c < l.length + 1) (hl : l.length ≤ 1000) :
    Calls Try.prog 27 #[.slice (some ⟨b, off, none⟩) l.length c, .int .i64 i, .slice (some ⟨vb, 0, none⟩) 1 1] W (Ins W (some ⟨b, off, none⟩) (l.take i ++ [x] ++ l.drop i)) := by
  obtain ⟨i0, hi0, hz0, hs0, hb0⟩ := info_parts info_span
  have mixed : Try.prog.follows .mixedOrders = true := by kernel_rfl
  obtain ⟨n, hn⟩ : ∃ n, l.length = n := ⟨_, rfl⟩
  have hcn : c = n := by have := h.le; omega
  subst hcn
  have hold : (Builtin.firstCells i0.size i (.slice (some ⟨b, off, none⟩) i c)).run Try.prog W.drew = .ok (enc (l.take i)).toArray W.drew := by
    rw [hs0]
    refine run_firstCells_some W.drew 2 i ⟨b, off, none⟩ i c (enc (l.take i)) (by rw [enc_length, List.length_take]; omega) (fun j v hj => by
      rw [Addr.add_lit]
      rw [enc_take] at hj
      by_cases hj2 : j < 2 * i
      · rw [List.getElem?_take_of_lt hj2] at hj; exact h.at_ j v hj
      · rw [List.getElem?_take_eq_none (by omega)] at hj; cases hj)
  have hik : i + (c + 1 - i) = c + 1 := by omega
  have hkk : (c : Int) + 1 - (i : Int) = ((c + 1 - i : Nat) : Int) := by omega
  have hrz : ∀ ty, (Builtin.append_ #[24, 3] ty #[.slice (some ⟨b, off, none⟩) i c, .int .i64 ((c : Int) + 1 - (i : Int))]).run Try.prog W = .ok (.slice (some ⟨W.heap.size, 0, none⟩) (c + 1) (grownCap W (c + 1) c 30)) (W.drew.alloc (.cells ((enc (l.take i)).toArray ++ Builtin.zeroCells (Value.agg #[.int .i64 0, .int .i64 0]).cells (c + 1 - i) ++ Builtin.zeroCells (Value.agg #[.int .i64 0, .int .i64 0]).cells (grownCap W (c + 1) c 30 - (c + 1))) 30)) := fun ty => by
    have hr := Lib.run_append_grow_zeros W 24 3 ty 30 i0 _ .i64 .i64 slice_span Try.underlying3 hi0 hz0 (some ⟨b, off, none⟩) i c (enc (l.take i)) hold (c + 1 - i) (by omega) (by omega) (by omega) (by omega) (by rw [hb0]; omega) (by rw [hb0, hik]; exact growslice_fits (by omega) (by omega))
    rw [hik] at hr
    rw [hkk]
    exact hr
  have hG := grownCap_ge W (c + 1) c 30
  have hGm := grownCap_le_maxLen W (c + 1) c 30 (by unfold maxLen; omega)
  generalize grownCap W (c + 1) c 30 = G at *
  obtain ⟨ROW, hROW⟩ : ∃ ROW : Array Value, (enc (l.take i)).toArray ++ Builtin.zeroCells (Value.agg #[.int .i64 0, .int .i64 0]).cells (c + 1 - i) ++ Builtin.zeroCells (Value.agg #[.int .i64 0, .int .i64 0]).cells (G - (c + 1)) = ROW := ⟨_, rfl⟩
  rw [hROW] at hrz
  have hel := enc_length (l.take i)
  have hlt : (l.take i).length = i := by rw [List.length_take]; omega
  have hRs : 2 * G ≤ ROW.size := by
    rw [← hROW]
    simp only [Array.size_append, zeros_size, List.size_toArray]
    omega
  have h0 : RowAt (W.drew.alloc (.cells ROW 30)) W.heap.size 0 G (l.take i) := by
    have hh : W.drew.heap.size = W.heap.size := rfl
    rw [← hh]
    refine RowAt.alloc _ _ (by omega) (maxLen_le hGm) (by omega) hRs (fun j v hj => ?_)
    obtain ⟨hlt2, e⟩ := List.getElem?_eq_some_iff.1 hj
    rw [← hROW, Array.getElem?_append_left (by simp only [Array.size_append, List.size_toArray]; omega), Array.getElem?_append_left (by simpa using hlt2), List.getElem?_toArray]
    exact hj
  have hbl := h.lt
  have hvl := hv.lt
  have hO0 : Only (fun _ => False) W (W.drew.alloc (.cells ROW 30)) := only_alloc _ W _
  obtain ⟨W0, hW0⟩ : ∃ x, W.drew.alloc (.cells ROW 30) = x := ⟨_, rfl⟩
  have hsz0 : W0.heap.size = W.heap.size + 1 := by rw [← hW0, World.size_alloc]; rfl
  rw [hW0] at hrz h0 hO0
  have hE0 : (W.alloc (.cells ROW 30)).drew = W0 := by rw [← hW0]; rfl
  have hA0 : RowAt W0 b off c l := h.move (hO0.block b hbl (fun q => q))
  have hv0 : RowAt W0 vb 0 1 [x] := hv.move (hO0.block vb hvl (fun q => q))
  -- the value goes in
  have hcpA : ∀ (W2 : World), W2 = W0 → ∀ ty dc, (Builtin.copy_ #[24, 24] ty #[.slice (some ⟨W.heap.size, i * 2, none⟩) (c + 1 - i) dc, .slice (some ⟨vb, 0, none⟩) 1 1]).run Try.prog W2 = .ok (goInt 1) (W2.setCells W.heap.size (i * 2) (enc [x])) := fun W2 e ty dc => by
    subst e
    have := run_copy_spans h0 i (c + 1 - i) dc ⟨vb, 0, none⟩ 1 1 [x] (by simp only [Nat.min_def, List.length_singleton]; split <;> omega) (by simp; omega) (fun j v hj => by rw [Addr.add_lit]; exact hv0.at_ j v hj) ty
    rwa [Nat.zero_add, Nat.mul_comm 2 i] at this
  have h1 := h0.put i [x] (by omega) (by simp; omega)
  have hO1 := only_new W.heap.size (Nat.le_refl _) (enc [x]) W0 (0 + 2 * i) hO0
  rw [Nat.zero_add, Nat.mul_comm 2 i] at h1 hO1
  have e1 : (l.take i).take i ++ [x] ++ (l.take i).drop (i + [x].length) = l.take i ++ [x] := splice (l.take i) [x] i hlt
  rw [e1] at h1
  obtain ⟨W1, hW1⟩ : ∃ y, W0.setCells W.heap.size (i * 2) (enc [x]) = y := ⟨_, rfl⟩
  rw [hW1] at h1 hO1
  have hA1 : RowAt W1.drew b off c l := (h.move (hO1.block b hbl (fun q => q)) : RowAt W1 b off c l).move rfl
  have h1D : RowAt W1.drew W.heap.size 0 G (l.take i ++ [x]) := h1.move rfl
  -- what stood from i on
  have hdl : (l.drop i).length = c - i := by rw [List.length_drop, hn]
  have hcpB : ∀ (W2 : World), W2 = W1.drew → ∀ ty dc sc, (Builtin.copy_ #[24, 24] ty #[.slice (some ⟨W.heap.size, (i + 1) * 2, none⟩) (c - i) dc, .slice (some ⟨b, off + i * 2, none⟩) (c - i) sc]).run Try.prog W2 = .ok (goInt (l.drop i).length) (W1.drew.setCells W.heap.size ((i + 1) * 2) (enc (l.drop i))) := fun W2 e ty dc sc => by
    subst e
    have := run_copy_spans h1D (i + 1) (c - i) dc ⟨b, off + i * 2, none⟩ (c - i) sc (l.drop i) (by rw [hdl]; simp) (by rw [hdl]; omega) (fun j v hj => by
      rw [Addr.add_lit, Nat.add_assoc, Nat.mul_comm i 2]
      rw [enc_drop, List.getElem?_drop] at hj
      exact hA1.at_ _ v hj) ty
    rwa [Nat.zero_add, Nat.mul_comm 2 (i + 1)] at this
  have h2 := h1D.put (i + 1) (l.drop i) (by simp; omega) (by rw [hdl]; omega)
  have hO2 := only_new W.heap.size (Nat.le_refl _) (enc (l.drop i)) W1.drew (0 + 2 * (i + 1)) hO1.drew
  rw [Nat.zero_add, Nat.mul_comm 2 (i + 1)] at h2 hO2
  have e2 : (l.take i ++ [x]).take (i + 1) ++ l.drop i ++ (l.take i ++ [x]).drop (i + 1 + (l.drop i).length) = l.take i ++ [x] ++ l.drop i := splice (l.take i ++ [x]) (l.drop i) (i + 1) (by rw [List.length_append, hlt]; rfl)
  rw [e2] at h2
  obtain ⟨W2, hW2⟩ : ∃ y, W1.drew.setCells W.heap.size ((i + 1) * 2) (enc (l.drop i)) = y := ⟨_, rfl⟩
  rw [hW2] at h2 hO2
  have HP := Aside0.mk (show Ins W (some ⟨b, off, none⟩) (l.take i ++ [x] ++ l.drop i) (.returned (.slice (some ⟨W.heap.size, 0, none⟩) (c + 1) G)) W2 from
    ⟨some ⟨W.heap.size, 0, none⟩, G, by simp; omega, .inr ⟨W.heap.size, 0, rfl, h2⟩, hO2.imp (fun k _ e => e.elim), .inr ⟨_, rfl, Nat.le_refl _⟩⟩)
  have hz2 : ¬ ((i : Int) = (c : Int)) := by omega
  have hz3 : (c : Int) < (c : Int) + 1 := by omega
  have hb1 : (0 : Int) ≤ (i : Int) + 1 := by omega
  have hin : i ≤ c := by omega
  have htn : ((i : Int) + 1).toNat = i + 1 := by omega
  have hb3 : (i : Int) ≤ (c : Int) := by omega
  have hGi : ¬ (G = i) := by omega
  have hGim : ¬ (G = i + 1) := by omega
  have hci : ¬ (c = i) := by omega
  have hw1 : IntKind.i64.wrap ((i : Int) + 1) = (i : Int) + 1 := by rw [IntKind.wrap_i64]; omega
  have hG63 := maxLen_le hGm
  have hGi2 : i ≤ G := by omega
  have hcb : c ≤ 1000 := by omega
  rw [hn] at hi ⊢
  have HRZ := Aside0.mk hrz
  have HW2 := Aside0.mk hW2
  have HCA := Aside0.mk hcpA
  have HCB := Aside0.mk hcpB
  clear hrz hcpA hcpB hW0 hW2
  clear h h0 h1 h2 h1D hA0 hA1 hv hv0 hO0 hO1 hO2 e1 e2 hdl hn hROW hold hel hlt hRs hik hkk hG hGm hi0 hz0 hs0 hb0 hbl hvl hsz0 hc hl
  go_enter Try.func27, Try.ntmps27
  go_wp2_with (first
    | (at_builtin; refine Lib.wpList_append_run _ rfl _ _ _ _ rfl _ _ rfl rfl _ _ (HRZ.out _) ?_)
    | (refine wpList_copy_runI _ rfl _ _ 24 24 rfl _ _ rfl rfl (HCA.out _ rfl _ _) ?_))
  go_region_law_o (refine step_copy_runI rfl _ _ 24 24 rfl (.slice (some ⟨W.heap.size, (i + 1) * 2, none⟩) (c - i) (G - (i + 1))) (.slice (some ⟨b, off + i * 2, none⟩) (c - i) (c - i)) (by simp [Act.eval, Act.put]) (by simp [Act.eval, Act.put]) (HCB.out ((W0.setCells W.heap.size (i * 2) (enc [x])).drew) (by rw [hW1]) 3 (G - (i + 1)) (c - i)) ?_)
  go_wp2
  go_ret
  rw [HW2.out]
  exact HP.out

/-- slices.Insert of one span. -/
theorem insert_calls {W : World} {A : Option Addr} {c vb i : Nat} {l : List Spn} {x : Spn} (h : Row W A c l) (hv : RowAt W vb 0 1 [x]) (hne : ∀ a, A = some a → vb ≠ a.block) (hi : i ≤ l.length) (hl : l.length ≤ 1000) :
    Calls Try.prog 27 #[.slice A l.length c, .int .i64 i, .slice (some ⟨vb, 0, none⟩) 1 1] W (Ins W A (l.take i ++ [x] ++ l.drop i)) := by
  by_cases he : i = l.length
  · subst he
    rw [List.take_of_length_le (Nat.le_refl _), List.drop_eq_nil_of_le (Nat.le_refl _), List.append_nil]
    by_cases hc : l.length + 1 ≤ c
    · rcases h with ⟨rfl, rfl, rfl⟩ | ⟨b, off, rfl, h⟩
      · simp at hc
      · exact insert_end_room h hv hc
    · exact insert_end_grow h hv (by omega) hl
  · rcases h with ⟨rfl, rfl, rfl⟩ | ⟨b, off, rfl, h⟩
    · simp at hi; exact absurd hi he
    · by_cases hc : l.length + 1 ≤ c
      · exact insert_shift h hv (hne _ rfl) (by omega) hc
      · exact insert_grow h hv (by omega) (by omega) hl
end Go.Proofs.Ytpihkmpcnkhnfaa.Sp
