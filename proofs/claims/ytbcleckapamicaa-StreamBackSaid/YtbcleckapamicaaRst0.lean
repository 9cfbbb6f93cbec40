/- The document's stream: places and bytes in two rows; held and front, walked. -/
import Derived.Test.YtbcleckapamicaaStm6
namespace Go.Proofs.Ytbcleckapamicaa.Rst
open Go Go.RowKit Go.Proofs.YtbcleckapamicaaW.PrintWords Go.Proofs.YtbcleckapamicaaW.PrintLast Go.Proofs.YtbcleckapamicaaW.PrintMore
open Go.Proofs.Ytbcleckapamicaa.Stm (Bytes bytes_rd front front_none front_some front_le front_bytes FB Only info5 wf64)
set_option linter.unusedVariables false
set_option linter.unusedSimpArgs false

/-- The byte at a place; -1: none. -/
def held : List Int → List Int → Int → Int
  | a :: ks, b :: bs, k => if a = k then b else held ks bs k
  | _, _, _ => -1
def FR (ks bs : List Int) : Stm.Fn := fun k => if held ks bs k < 0 then none else some (held ks bs k)
theorem held_nil (bs : List Int) (k : Int) : held [] bs k = -1 := by cases bs <;> rfl
theorem held_range : ∀ (ks bs : List Int), Bytes bs → ∀ k, held ks bs k = -1 ∨ 0 ≤ held ks bs k ∧ held ks bs k ≤ 255 := by
  intro ks
  induction ks with
  | nil => intro bs _ k; left; exact held_nil _ _
  | cons a ks ih =>
    intro bs hB k
    cases bs with
    | nil => left; rfl
    | cons b bs =>
      unfold held
      split
      · right; exact hB b List.mem_cons_self
      · exact ih bs (fun x hx => hB x (List.mem_cons_of_mem _ hx)) k
theorem FR_FB (ks bs : List Int) (hB : Bytes bs) : FB (FR ks bs) := by
  intro k c h
  unfold FR at h
  split at h
  · cases h
  · injection h with h
    have := held_range ks bs hB k
    omega
theorem FR_nil : FR [] [] = Stm.F0 := by funext k; rfl
/-- One more place. -/
theorem held_snoc : ∀ (ks bs : List Int), ks.length = bs.length → Bytes bs → ∀ (a b k : Int), held (ks ++ [a]) (bs ++ [b]) k = if held ks bs k < 0 then (if a = k then b else -1) else held ks bs k := by
  intro ks
  induction ks with
  | nil =>
    intro bs hl _ a b k
    cases bs with
    | nil => simp [held]
    | cons b bs => simp at hl
  | cons x ks ih =>
    intro bs hl hB a b k
    cases bs with
    | nil => simp at hl
    | cons y bs =>
      simp only [List.cons_append]
      unfold held
      by_cases e : x = k
      · rw [if_pos e, if_pos e, if_neg (by have := hB y List.mem_cons_self; omega)]
      · rw [if_neg e, if_neg e]
        exact ih bs (by simpa using hl) (fun z hz => hB z (List.mem_cons_of_mem _ hz)) a b k
theorem FR_snoc (ks bs : List Int) (hl : ks.length = bs.length) (hB : Bytes bs) (a b : Int) (hb : 0 ≤ b) (k : Int) : FR (ks ++ [a]) (bs ++ [b]) k = match FR ks bs k with | some c => some c | none => if a = k then some b else none := by
  unfold FR
  rw [held_snoc ks bs hl hB]
  by_cases e : held ks bs k < 0
  · simp only [if_pos e]
    by_cases e2 : a = k
    · rw [if_pos e2, if_neg (by omega), if_pos e2]
    · rw [if_neg e2, if_pos (by omega), if_neg e2]
  · simp only [if_neg e]
theorem FR_put {ks bs : List Int} (hl : ks.length = bs.length) (hB : Bytes bs) {a b : Int} (hb : 0 ≤ b) (hn : FR ks bs a = none) : FR (ks ++ [a]) (bs ++ [b]) = fun k => if k = a then some b else FR ks bs k := by
  funext k
  rw [FR_snoc ks bs hl hB a b hb]
  by_cases e : k = a
  · subst e
    rw [hn]
    try simp
  · rw [if_neg e]
    cases FR ks bs k with
    | none => simp only []; rw [if_neg (fun h => e h.symm)]
    | some c => rfl
theorem held_drop (ks bs : List Int) (hl : ks.length = bs.length) (k : Int) (j : Nat) (hj : j < ks.length) (hne : rd ks j ≠ k) : held (ks.drop j) (bs.drop j) k = held (ks.drop (j + 1)) (bs.drop (j + 1)) k := by
  have h1 : ks.drop j = rd ks j :: ks.drop (j + 1) := by
    rw [List.drop_eq_getElem_cons hj]
    simp [rd, List.getD_eq_getElem?_getD, List.getElem?_eq_getElem hj]
  have h2 : bs.drop j = rd bs j :: bs.drop (j + 1) := by
    rw [List.drop_eq_getElem_cons (by omega)]
    simp [rd, List.getD_eq_getElem?_getD, List.getElem?_eq_getElem (show j < bs.length by omega)]
  rw [h1, h2]
  conv => lhs; unfold held
  rw [if_neg hne]
theorem held_hit (ks bs : List Int) (hl : ks.length = bs.length) (k : Int) (j : Nat) (hj : j < ks.length) (he : rd ks j = k) : held (ks.drop j) (bs.drop j) k = rd bs j := by
  have h1 : ks.drop j = rd ks j :: ks.drop (j + 1) := by
    rw [List.drop_eq_getElem_cons hj]
    simp [rd, List.getD_eq_getElem?_getD, List.getElem?_eq_getElem hj]
  have h2 : bs.drop j = rd bs j :: bs.drop (j + 1) := by
    rw [List.drop_eq_getElem_cons (by omega)]
    simp [rd, List.getD_eq_getElem?_getD, List.getElem?_eq_getElem (show j < bs.length by omega)]
  rw [h1, h2]
  unfold held
  rw [if_pos he]

/-- The struct (block rb) and its two rows. -/
structure Sr (w : World) (base rb : Nat) (t : Int) (ks bs : List Int) (va vb : Value) : Prop where
  c0 : w.cell? ⟨rb, 0, none⟩ = some (.int .i64 t)
  c1 : w.cell? ⟨rb, 1, none⟩ = some va
  c2 : w.cell? ⟨rb, 2, none⟩ = some vb
  f0 : w.frozen? ⟨rb, 0, none⟩ = false
  f1 : w.frozen? ⟨rb, 1, none⟩ = false
  f2 : w.frozen? ⟨rb, 2, none⟩ = false
  ra : (Kd.int .i64).R 3 w base (fun _ => True) va ks
  rb_ : (Kd.int .u8).R 5 w base (fun _ => True) vb bs
  na : va.ownBlock ≠ some rb
  nb : vb.ownBlock ≠ some rb
  nab : ∀ k, va.ownBlock = some k → vb.ownBlock ≠ some k
  lo : base ≤ rb
  bz : base ≤ w.heap.size
  len : ks.length = bs.length
  by_ : Bytes bs
theorem row_keep {q : IntKind} {w w1 : World} {e base : Nat} {v : Value} {xs : List Int} (h : (Kd.int q).R e w base (fun _ => True) v xs) (hm : ∀ k, v.ownBlock = some k → w1.heap[k]? = w.heap[k]?) : (Kd.int q).R e w1 base (fun _ => True) v xs := by
  obtain ⟨h0, inner, ho, hr⟩ := h
  exact ⟨h0, inner, own_move ho hm, hr⟩
theorem row_lt {q : IntKind} {w : World} {e base : Nat} {v : Value} {xs : List Int} (h : (Kd.int q).R e w base (fun _ => True) v xs) (k : Nat) (hk : v.ownBlock = some k) : k < w.heap.size := by
  obtain ⟨inner, ho⟩ := Kd.R_own h
  exact own_lt ho k hk
theorem row_ge {q : IntKind} {w : World} {e base : Nat} {v : Value} {xs : List Int} (h : (Kd.int q).R e w base (fun _ => True) v xs) (k : Nat) (hk : v.ownBlock = some k) : base ≤ k := by
  obtain ⟨inner, ho⟩ := Kd.R_own h
  exact own_base ho k hk
theorem Sr.lt {w : World} {base rb : Nat} {t : Int} {ks bs : List Int} {va vb : Value} (h : Sr w base rb t ks bs va vb) : rb < w.heap.size := World.block_lt_of_cell? w _ h.c0
theorem Sr.only {p : Nat → Prop} {w w' : World} {base rb : Nat} {t : Int} {ks bs : List Int} {va vb : Value} (h : Sr w base rb t ks bs va vb) (ho : Only p w w') (h1 : ¬ p rb) (h2 : ∀ k, va.ownBlock = some k → ¬ p k) (h3 : ∀ k, vb.ownBlock = some k → ¬ p k) : Sr w' base rb t ks bs va vb := by
  have hb := ho.block rb h.lt h1
  exact ⟨(World.cell?_of_block (w := w) (a := ⟨rb, 0, none⟩) hb).trans h.c0, (World.cell?_of_block (w := w) (a := ⟨rb, 1, none⟩) hb).trans h.c1, (World.cell?_of_block (w := w) (a := ⟨rb, 2, none⟩) hb).trans h.c2,
    (World.frozen?_of_block (w := w) (a := ⟨rb, 0, none⟩) hb).trans h.f0, (World.frozen?_of_block (w := w) (a := ⟨rb, 1, none⟩) hb).trans h.f1, (World.frozen?_of_block (w := w) (a := ⟨rb, 2, none⟩) hb).trans h.f2,
    row_keep h.ra (fun k hk => ho.block k (row_lt h.ra k hk) (h2 k hk)), row_keep h.rb_ (fun k hk => ho.block k (row_lt h.rb_ k hk) (h3 k hk)), h.na, h.nb, h.nab, h.lo, Nat.le_trans h.bz ho.size, h.len, h.by_⟩
theorem Sr.below {w w' : World} {base rb : Nat} {t : Int} {ks bs : List Int} {va vb : Value} (h : Sr w base rb t ks bs va vb) (hb : Below w.heap.size w w') : Sr w' base rb t ks bs va vb :=
  h.only (Only.of_below hb : Only (fun _ => False) w w') (fun h => h) (fun _ _ h => h) (fun _ _ h => h)

set_option maxHeartbeats 1000000 in
set_option maxRecDepth 100000 in
theorem held_calls {w : World} {base rb : Nat} {t : Int} {ks bs : List Int} {va vb : Value} (hS : Sr w base rb t ks bs va vb) (k : Int) (hl : ks.length ≤ 1000000) :
    Calls Try.prog 51 #[.pointer (some ⟨rb, 0, none⟩), .int .i64 k] w fun e w' => e = .returned (.int .i64 (held ks bs k)) ∧ w' = w := by
  obtain ⟨Aa, ca, rfl, la, ka⟩ := Kd.R_reads hS.ra
  obtain ⟨Ab, cb, rfl, lb, kb⟩ := Kd.R_reads hS.rb_
  have c1 := hS.c1
  have c2 := hS.c2
  have hle := hS.len
  have KA := Aside0.mk ka
  have KB := Aside0.mk kb
  have LN := Aside0.mk hle
  have LL := Aside0.mk hl
  have BY := Aside0.mk hS.by_
  rw [← hle] at c2
  clear hS ka kb la lb hle hl
  go_enter Try.func51, Try.ntmps51
  go_wp2
  go_loopg [5] ks.length (fun gg v5 wr => ∃ j : Nat, j ≤ ks.length ∧ ks.length - j ≤ gg ∧ v5 = .int .i64 j ∧ Aside0 (held ks bs k = held (ks.drop j) (bs.drop j) k) ∧ wr = w)
  case atStart => exact ⟨0, Nat.zero_le _, by omega, rfl, ⟨by simp⟩, rfl⟩
  case round =>
    obtain ⟨j, hj, hg, rfl, HH, hw⟩ := hrel
    subst wr
    by_cases hlt : j < ks.length
    · have hltz : (j : Int) < (ks.length : Int) := by omega
      obtain ⟨ad, rfl, hcell⟩ := Kd.at_int KA.out (j : Int) (by omega) hltz
      rw [Int.toNat_natCast] at hcell
      obtain ⟨ad2, e2, hcell2⟩ := Kd.at_int KB.out (j : Int) (by omega) (by have := LN.out; omega)
      rw [Int.toNat_natCast] at hcell2
      subst e2
      have EW := Aside0.mk (show wrap64 ((j : Int) + 1) = ((j + 1 : Nat) : Int) by have := LL.out; unfold wrap64; omega)
      have HB := Aside0.mk (bytes_rd BY.out j (by have := LN.out; omega))
      by_cases hx : rd ks (j : Int) = k
      · have HIT := Aside0.mk (HH.out.trans (held_hit ks bs LN.out k j hlt hx))
        have q1 : (rd ks (j : Int) == k) = true := beq_iff_eq.mpr hx
        have EB := Aside0.mk (show wrap64 (rd bs (j : Int)) = rd bs (j : Int) by have := HB.out; unfold wrap64; omega)
        clear hx
        generalize rd ks (j : Int) = x at *
        generalize rd bs (j : Int) = y at *
        go_wp2
        go_ret
        exact ⟨by rw [HIT.out]; first | rfl | exact congrArg (fun z => Ending.returned (Value.int .i64 z)) EB.out, rfl⟩
      · have NXT := Aside0.mk (HH.out.trans (held_drop ks bs LN.out k j hlt hx))
        have q1 : (rd ks (j : Int) == k) = false := beq_eq_false_iff_ne.mpr hx
        clear hx
        generalize rd ks (j : Int) = x at *
        generalize rd bs (j : Int) = y at *
        go_wp2
        go_roundg (ks.length - (j + 1))
        case measure => omega
        case rel => exact ⟨j + 1, by omega, by omega, by rw [EW.out], NXT, rfl⟩
    · have hltz : ¬ (j : Int) < (ks.length : Int) := by omega
      have HE := Aside0.mk (HH.out.trans (show held (ks.drop j) (bs.drop j) k = -1 by rw [List.drop_of_length_le (by omega)]; exact held_nil _ _))
      go_wp2
      go_ret
      exact ⟨by rw [HE.out]; rfl, rfl⟩

set_option maxHeartbeats 1000000 in
set_option maxRecDepth 100000 in
theorem front_calls {w : World} {base rb : Nat} {t : Int} {ks bs : List Int} {va vb : Value} (hS : Sr w base rb t ks bs va vb) (nn : Nat) (hnn : nn ≤ 1000000) (hl : ks.length ≤ 1000000) (ht : 0 ≤ t) (ht' : t ≤ 549755813888) :
    Calls Try.prog 50 #[.pointer (some ⟨rb, 0, none⟩), .int .i64 (nn : Nat)] w fun e w' => ∃ v, e = .returned v ∧ Kd.R (Kd.int .u8) 5 w' w.heap.size (fun _ => True) v (front (FR ks bs) t nn) ∧ Below w.heap.size w w' := by
  have HS := Aside0.mk hS
  have HT := Aside0.mk ht
  have HT' := Aside0.mk ht'
  have HNN := Aside0.mk hnn
  have HL := Aside0.mk hl
  clear hS ht ht' hnn hl
  go_enter Try.func50, Try.ntmps50
  go_wp2
  go_loopg [5, 6] nn (fun gg v5 v6 wr => ∃ ys : List Int, nn - ys.length ≤ gg ∧ v6 = .int .i64 (ys.length : Nat) ∧ Aside0 (ys.length ≤ nn) ∧ Kd.R (Kd.int .u8) 5 wr w.heap.size (fun _ => True) v5 ys ∧ Below w.heap.size w wr ∧ Aside0 (front (FR ks bs) t nn = ys ++ front (FR ks bs) (t + ys.length) (nn - ys.length)))
  case atStart => exact ⟨[], by simp, rfl, ⟨by simp⟩, Kd.R_nil _ _ _ _ _, Below.refl _ _, ⟨by simp⟩⟩
  case round =>
    obtain ⟨ys, hg, rfl, HY, ho, hb, HF⟩ := hrel
    have HO := Aside0.mk ho
    have HB := Aside0.mk hb
    have HSr := Aside0.mk (HS.out.below hb)
    have c0 := HSr.out.c0
    obtain ⟨Ay, cy, e5⟩ := Kd.R_slice ho
    subst e5
    clear ho hb
    by_cases hlt : ys.length < nn
    · have d0 : decide ((ys.length : Int) < (nn : Int)) = true := decide_eq_true (by omega)
      have d1 : decide (ys.length < nn) = true := decide_eq_true hlt
      have hy := HY.out
      have h1 := HT.out
      have h2 := HT'.out
      have h3 := HNN.out
      have EK := Aside0.mk (show wrap64 (t + (ys.length : Int)) = t + (ys.length : Int) by unfold wrap64; omega)
      have EW := Aside0.mk (show wrap64 ((ys.length : Int) + 1) = (ys.length : Int) + 1 by unfold wrap64; omega)
      have HLE := Aside0.mk (show (ys.length + 1) * 1 ≤ 140737488355328 by omega)
      have HG := Aside0.mk hg
      have HLT := Aside0.mk hlt
      have hr := held_range ks bs HS.out.by_ (t + (ys.length : Int))
      clear hy h1 h2 h3 hg hlt
      have H51 := held_calls HSr.out (wrap64 (t + (ys.length : Int))) HL.out
      rw [EK.out] at H51
      obtain ⟨z, hz⟩ : ∃ z, held ks bs (t + (ys.length : Int)) = z := ⟨_, rfl⟩
      rw [hz] at H51 hr
      have H51' : Calls Try.prog 51 #[.pointer (some ⟨rb, 0, none⟩), .int .i64 (wrap64 (t + (ys.length : Int)))] wr fun e w' => e = .returned (.int .i64 z) ∧ w' = wr := by rw [EK.out]; exact H51
      clear H51
      by_cases hn : z < 0
      · have d2 : decide (z < 0) = true := decide_eq_true hn
        have HN := Aside0.mk (show FR ks bs (t + (ys.length : Int)) = none by unfold FR; rw [hz, if_pos hn])
        clear hn hr hz
        go_wp2_with (go_at_call 51; refine H51'.mono ?_; rintro e1 w1 ⟨rfl, hw1⟩; subst hw1)
        have HR := HF.out
        rw [front_none _ _ _ HN.out, List.append_nil] at HR
        go_ret
        exact ⟨_, rfl, by rw [HR]; exact HO.out, HB.out⟩
      · have d2 : decide (z < 0) = false := decide_eq_false hn
        have HN := Aside0.mk (show FR ks bs (t + (ys.length : Int)) = some z by unfold FR; rw [hz, if_neg hn])
        have hz8 : z % 256 = z := by omega
        have HZ := Aside0.mk hz8
        clear hn hr hz hz8
        go_wp2_with (first
          | (go_at_call 51; refine H51'.mono ?_; rintro e1 w1 ⟨rfl, hw1⟩; subst hw1)
          | ((with_reducible refine gate_builtin (b := .append) (xs := #[.tmp 24, .tmp 27]) rfl ?_); at_builtin; refine Kd.R_append (Kd.int .u8) (w0 := w) w.heap.size rfl (.tmp 24) (.tmp 27) 44 5 (.int .u8 0) 1 rfl Try.underlying44 info5 rfl (by decide) (by omega) _ ys (z % 256) [.int .u8 (z % 256)] (fun _ => True) (fun _ => False) rfl rfl ?aP (fun _ hk => hk.elim) ?aF ?aO ?aB ?aS ?aL ?_; (case aP => exact rfl); (case aB => exact HB.out); (case aF => exact (fun _ _ => trivial)); (case aO => exact HO.out); (case aS => exact below_size HB.out); (case aL => exact HLE.out); intro v9 w9 ho hb hg hat; clear hg hat; rw [HZ.out] at ho; have HO9 := Aside0.mk ho; have HB9 := Aside0.mk hb; clear ho hb))
        go_roundg (nn - (ys.length + 1))
        case measure => have := HG.out; have := HLT.out; omega
        case rel => exact ⟨ys ++ [z], by simp, by first | rw [EW.out]; simp | simp, ⟨by have := HLT.out; simp; omega⟩, HO9.out, HB9.out, ⟨by
          have h := HF.out
          have hlt := HLT.out
          rw [show nn - ys.length = (nn - (ys.length + 1)) + 1 by omega, front_some _ _ _ z HN.out] at h
          rw [h, List.append_assoc, List.length_append]
          simp [Int.add_assoc]⟩⟩
    · have d0 : decide ((ys.length : Int) < (nn : Int)) = false := decide_eq_false (by omega)
      have d1 : decide (ys.length < nn) = false := decide_eq_false hlt
      have HR := HF.out
      rw [show nn - ys.length = 0 by omega] at HR
      have HR' := Aside0.mk (HR.trans (by simp [front] : ys ++ front (FR ks bs) (t + (ys.length : Int)) 0 = ys))
      clear HR hlt hg
      go_wp2
      go_ret
      exact ⟨_, rfl, by rw [HR'.out]; exact HO.out, HB.out⟩
end Go.Proofs.Ytbcleckapamicaa.Rst
