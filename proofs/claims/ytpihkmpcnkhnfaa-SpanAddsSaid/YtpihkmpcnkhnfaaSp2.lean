/- slices.Replace of some spans by one. -/
import Derived.Test.YtpihkmpcnkhnfaaSp1
namespace Go.Proofs.Ytpihkmpcnkhnfaa.Sp
open Go Go.RowKit Go.Lib Go.Proofs.YtpihkmpcnkhnfaaW.PrintWords
open Go.Proofs.Ytpihkmpcnkhnfaa.Onl (Only)
set_option linter.unusedVariables false
set_option linter.unusedSimpArgs false

set_option maxHeartbeats 4000000 in
set_option maxRecDepth 100000 in
/-- Nothing is replaced: it is put in. -/
theorem replace_ins {W : World} {A : Option Addr} {c vb i : Nat} {l : List Spn} {x : Spn} (h : Row W A c l) (hv : RowAt W vb 0 1 [x]) (hne : ∀ a, A = some a → vb ≠ a.block) (hi : i ≤ l.length) (hl : l.length ≤ 1000) :
    Calls Try.prog 19 #[.slice A l.length c, .int .i64 i, .int .i64 i, .slice (some ⟨vb, 0, none⟩) 1 1] W (Ins W A (l.take i ++ [x] ++ l.drop i)) := by
  have HI := Aside0.mk (insert_calls h hv hne hi hl)
  have hlc : l.length ≤ c := by
    rcases h with ⟨rfl, rfl, rfl⟩ | ⟨b, off, rfl, h⟩
    · simp
    · exact h.le
  have hA : A = none ∧ c = 0 ∨ ∃ b off, A = some ⟨b, off, none⟩ := by
    rcases h with ⟨rfl, rfl, rfl⟩ | ⟨b, off, rfl, h⟩
    · exact .inl ⟨rfl, rfl⟩
    · exact .inr ⟨b, off, rfl⟩
  obtain ⟨l', hl'⟩ : ∃ y, l.take i ++ [x] ++ l.drop i = y := ⟨_, rfl⟩
  rw [hl'] at HI ⊢
  clear hl'
  obtain ⟨n, hn⟩ : ∃ n, l.length = n := ⟨_, rfl⟩
  rw [hn] at HI hlc hi hl ⊢
  have hic : i ≤ c := by omega
  have hnc : n ≤ c := by omega
  clear h hv hne hlc hn
  rcases hA with ⟨rfl, rfl⟩ | ⟨b, off, rfl⟩
  · obtain rfl : i = 0 := by omega
    obtain rfl : n = 0 := by omega
    go_enter Try.func19, Try.ntmps19
    go_wp2_with (go_at_call 27; refine HI.out.mono ?_; rintro e w1 ⟨A', c', rfl, hr⟩; have HR := Aside0.mk hr; clear hr)
    go_ret
    exact ⟨A', c', rfl, HR.out⟩
  · by_cases hci : c = i
    · subst hci
      go_enter Try.func19, Try.ntmps19
      go_wp2_with (go_at_call 27; refine HI.out.mono ?_; rintro e w1 ⟨A', c', rfl, hr⟩; have HR := Aside0.mk hr; clear hr)
      go_ret
      exact ⟨A', c', rfl, HR.out⟩
    · go_enter Try.func19, Try.ntmps19
      go_wp2_with (go_at_call 27; refine HI.out.mono ?_; rintro e w1 ⟨A', c', rfl, hr⟩; have HR := Aside0.mk hr; clear hr)
      go_ret
      exact ⟨A', c', rfl, HR.out⟩

theorem take_splice (l : List Spn) (x : Spn) (k : Nat) (hk : k < l.length) : (l.take k ++ [x] ++ l.drop (k + [x].length)).take (k + 1) = l.take k ++ [x] := by
  have h1 : (l.take k ++ [x]).length = k + 1 := by rw [List.length_append, List.length_take, List.length_singleton]; omega
  rw [List.take_append_of_le_length (by omega), List.take_of_length_le (by omega)]

set_option maxHeartbeats 4000000 in
set_option maxRecDepth 100000 in
/-- Those at the end are replaced. -/
theorem replace_end {W : World} {b off c vb i : Nat} {l : List Spn} {x : Spn} (h : RowAt W b off c l) (hv : RowAt W vb 0 1 [x]) (hne : vb ≠ b) (hi : i < l.length) (hl : l.length ≤ 1000) :
    Calls Try.prog 19 #[.slice (some ⟨b, off, none⟩) l.length c, .int .i64 i, .int .i64 l.length, .slice (some ⟨vb, 0, none⟩) 1 1] W (Ins W (some ⟨b, off, none⟩) (l.take i ++ [x])) := by
  obtain ⟨i0, hi0, hz0, hs0, hb0⟩ := info_parts info_span
  have hlen : (enc [x]).length = 2 := rfl
  have hlc := h.le
  have hrun : ∀ ty, (Builtin.append_ #[24, 24] ty #[.slice (some ⟨b, off, none⟩) i c, .slice (some ⟨vb, 0, none⟩) 1 1]).run Try.prog W = .ok (.slice (some ⟨b, off, none⟩) (i + 1) c) (W.setCells b (off + 2 * i) (enc [x])) := fun ty => by
    have := run_append_room_src W 24 24 ty 30 i0 slice_span hi0 b off i c _ 1 (enc [x]) (src1 hv _ hs0) (by omega)
      (fun j hj => by rw [hs0, Nat.add_assoc]; exact h.is _ (by rw [hlen] at hj; omega)) (fun j hj => h.fz _)
    rw [this, hs0, Nat.mul_comm i 2]
  have h1 := h.put i [x] (by omega) (by simp; omega)
  have hO1 := only_setCells b (enc [x]) W (off + 2 * i)
  have hl1 := take_splice l x i hi
  generalize hl1e : l.take i ++ [x] ++ l.drop (i + [x].length) = l1 at *
  have hl1n : l1.length = l.length := by rw [← hl1e]; simp; omega
  generalize W.setCells b (off + 2 * i) (enc [x]) = W1 at *
  have hcl : ∀ ty, (Builtin.clear_ #[24] ty #[.slice (some ⟨b, off + (i + 1) * 2, none⟩) (l.length - (i + 1)) (c - (i + 1))]).run Try.prog W1 = .ok (.tuple #[]) (if i + 1 < l.length then W1.setCells b (off + 2 * (i + 1)) (enc (List.replicate (l.length - (i + 1)) (0, 0))) else W1) := fun ty => by
    rw [Nat.mul_comm (i + 1) 2]
    by_cases h2 : i + 1 < l.length
    · rw [if_pos h2]
      exact run_clear_spans h1 (i + 1) (l.length - (i + 1)) _ (by omega) (by omega) ty
    · rw [if_neg h2, show l.length - (i + 1) = 0 by omega]
      simp [Builtin.clear_, run_underlying slice_span]
  have h2 : RowAt (if i + 1 < l.length then W1.setCells b (off + 2 * (i + 1)) (enc (List.replicate (l.length - (i + 1)) (0, 0))) else W1) b off c (l.take i ++ [x]) := by
    by_cases h2 : i + 1 < l.length
    · rw [if_pos h2]
      have h3 := (h1.put (i + 1) (List.replicate (l.length - (i + 1)) (0, 0)) (by omega) (by simp; omega)).short (i + 1)
      rwa [List.append_assoc, List.take_append_of_le_length (by rw [List.length_take]; omega), List.take_take, Nat.min_self, hl1] at h3
    · rw [if_neg h2]
      have h3 := h1.short (i + 1)
      rwa [hl1] at h3
  have hO2 : Only (fun k => k = b) W (if i + 1 < l.length then W1.setCells b (off + 2 * (i + 1)) (enc (List.replicate (l.length - (i + 1)) (0, 0))) else W1) := by
    by_cases h2 : i + 1 < l.length
    · rw [if_pos h2]; exact hO1.trans (only_setCells b _ W1 _)
    · rw [if_neg h2]; exact hO1
  have hcap := h.cap
  obtain ⟨n, hn⟩ : ∃ n, l.length = n := ⟨_, rfl⟩
  rw [hn] at hcl h2 hO2 hi hlc hl ⊢
  obtain ⟨W2, hW2⟩ : ∃ y, (if i + 1 < n then W1.setCells b (off + 2 * (i + 1)) (enc (List.replicate (n - (i + 1)) (0, 0))) else W1) = y := ⟨_, rfl⟩
  rw [hW2] at hcl h2 hO2
  have HP := Aside0.mk (show Ins W (some ⟨b, off, none⟩) (l.take i ++ [x]) (.returned (.slice (some ⟨b, off, none⟩) (i + 1) c)) W2 from
    ⟨some ⟨b, off, none⟩, c, by simp; omega, .inr ⟨b, off, rfl, h2⟩, hO2.imp (fun k _ e => by rw [e]; rfl), .inl rfl⟩)
  have hne2 : ¬ ((i : Int) = (n : Int)) := by omega
  have hci : ¬ (c = i) := by omega
  have hin : i ≤ n := by omega
  have HW2 := Aside0.mk hW2
  clear hW2 h h1 h2 hv hO1 hO2 hl1 hl1e hl1n hn hi0 hz0 hs0 hb0 hlen
  by_cases h2 : i + 1 < n
  · have d1 : decide (i + 1 < n) = true := decide_eq_true h2
    have d2 : decide ((i : Int) + 1 < (n : Int)) = true := decide_eq_true (by omega)
    have hci1 : ¬ (c = i + 1) := by omega
    have hin1 : i + 1 ≤ n := by omega
    clear HW2
    go_enter Try.func19, Try.ntmps19
    go_wp2_with (at_builtin; refine Lib.wpList_append_run _ rfl _ _ _ _ rfl _ _ rfl rfl _ _ (hrun _) ?_)
    go_ret
    exact HP.out
  · have hW := HW2.out
    rw [if_neg h2] at hW
    subst hW
    have d1 : decide (i + 1 < n) = false := decide_eq_false h2
    have d2 : decide ((i : Int) + 1 < (n : Int)) = false := decide_eq_false (by omega)
    clear HW2 hcl
    go_enter Try.func19, Try.ntmps19
    go_wp2_with (at_builtin; refine Lib.wpList_append_run _ rfl _ _ _ _ rfl _ _ rfl rfl _ _ (hrun _) ?_)
    go_ret
    exact HP.out

set_option maxHeartbeats 4000000 in
set_option maxRecDepth 100000 in
/-- Those in the midst are replaced. -/
theorem replace_mid {W : World} {b off c vb i k : Nat} {l : List Spn} {x : Spn} (h : RowAt W b off c l) (hv : RowAt W vb 0 1 [x]) (hne : vb ≠ b) (hik : i < k) (hk : k < l.length) (hl : l.length ≤ 1000) :
    Calls Try.prog 19 #[.slice (some ⟨b, off, none⟩) l.length c, .int .i64 i, .int .i64 k, .slice (some ⟨vb, 0, none⟩) 1 1] W (Ins W (some ⟨b, off, none⟩) (l.take i ++ [x] ++ l.drop k)) := by
  have hlc := h.le
  have mixed : Try.prog.follows .mixedOrders = true := by kernel_rfl
  obtain ⟨n, hn⟩ : ∃ n, l.length = n := ⟨_, rfl⟩
  obtain ⟨tot, htot⟩ : ∃ t, i + 1 + (n - k) = t := ⟨_, rfl⟩
  -- the value goes in
  have hD : RowAt W.drew b off c l := h.move rfl
  have hvD : RowAt W.drew vb 0 1 [x] := hv.move rfl
  have hcp1 : ∀ ty dc, (Builtin.copy_ #[24, 24] ty #[.slice (some ⟨b, off + i * 2, none⟩) (tot - i) dc, .slice (some ⟨vb, 0, none⟩) 1 1]).run Try.prog W.drew = .ok (goInt 1) (W.drew.setCells b (off + 2 * i) (enc [x])) := fun ty dc => by
    rw [Nat.mul_comm i 2]
    exact run_copy_spans hD i (tot - i) dc ⟨vb, 0, none⟩ 1 1 [x] (by simp only [Nat.min_def, List.length_singleton]; split <;> omega) (by simp; omega) (fun j v hj => by rw [Addr.add_lit]; exact hvD.at_ j v hj) ty
  have h1 := hD.put i [x] (by omega) (by simp; omega)
  have hO1 := (Only.refl (fun k => k = b) W).drew.trans (only_setCells b (enc [x]) W.drew (off + 2 * i))
  obtain ⟨W1, hW1⟩ : ∃ y, W.drew.setCells b (off + 2 * i) (enc [x]) = y := ⟨_, rfl⟩
  rw [hW1] at hcp1 h1 hO1
  obtain ⟨l1, hl1⟩ : ∃ y, l.take i ++ [x] ++ l.drop (i + [x].length) = y := ⟨_, rfl⟩
  have t1 : l1.take (i + 1) = l.take i ++ [x] := by rw [← hl1]; exact take_splice l x i (by omega)
  have d1 : l1.drop k = l.drop k := by
    have hlt : (l.take i ++ [x]).length = i + 1 := by rw [List.length_append, List.length_take, List.length_singleton]; omega
    rw [← hl1, List.drop_append, hlt, List.drop_eq_nil_of_le (by omega), List.nil_append, List.drop_drop, List.length_singleton]
    congr 1; omega
  have n1 : l1.length = n := by rw [← hl1]; simp; omega
  rw [hl1] at h1
  -- what stood from k on
  have hdl : (l.drop k).length = n - k := by rw [List.length_drop, hn]
  have h1D : RowAt W1.drew b off c l1 := h1.move rfl
  have hcp2 : ∀ (W2 : World), W2 = W1.drew → ∀ ty dc sc, (Builtin.copy_ #[24, 24] ty #[.slice (some ⟨b, off + (i + 1) * 2, none⟩) (tot - (i + 1)) dc, .slice (some ⟨b, off + k * 2, none⟩) (n - k) sc]).run Try.prog W2 = .ok (goInt (l.drop k).length) (W1.drew.setCells b (off + 2 * (i + 1)) (enc (l.drop k))) := fun W2 e ty dc sc => by
    subst e
    rw [Nat.mul_comm (i + 1) 2]
    exact run_copy_spans h1D (i + 1) _ _ ⟨b, off + k * 2, none⟩ _ _ (l.drop k) (by rw [hdl]; simp only [Nat.min_def]; split <;> omega) (by rw [hdl]; omega) (fun j v hj => by
      rw [Addr.add_lit, Nat.add_assoc, Nat.mul_comm k 2]
      rw [← d1, enc_drop, List.getElem?_drop] at hj
      exact h1D.at_ _ v hj) ty
  have h2 := h1D.put (i + 1) (l.drop k) (by omega) (by rw [hdl]; omega)
  have hO2 := hO1.drew.trans (only_setCells b (enc (l.drop k)) W1.drew (off + 2 * (i + 1)))
  obtain ⟨W2, hW2⟩ : ∃ y, W1.drew.setCells b (off + 2 * (i + 1)) (enc (l.drop k)) = y := ⟨_, rfl⟩
  rw [hW2] at h2 hO2
  rw [t1] at h2
  obtain ⟨l2, hl2⟩ : ∃ y, l.take i ++ [x] ++ l.drop k ++ l1.drop (i + 1 + (l.drop k).length) = y := ⟨_, rfl⟩
  rw [hl2] at h2
  have hlt2 : (l.take i ++ [x] ++ l.drop k).length = tot := by simp; omega
  have t2 : l2.take tot = l.take i ++ [x] ++ l.drop k := by
    rw [← hl2, List.take_append_of_le_length (by omega), List.take_of_length_le (by omega)]
  have n2 : l2.length = n := by rw [← hl2, List.length_append, hlt2, List.length_drop, n1, hdl]; omega
  -- the rest is cleared
  have hcl : ∀ ty cc, (Builtin.clear_ #[24] ty #[.slice (some ⟨b, off + tot * 2, none⟩) (n - tot) cc]).run Try.prog W2 = .ok (.tuple #[]) (if tot < n then W2.setCells b (off + 2 * tot) (enc (List.replicate (n - tot) (0, 0))) else W2) := fun ty cc => by
    rw [Nat.mul_comm tot 2]
    by_cases h3 : tot < n
    · rw [if_pos h3]
      exact run_clear_spans h2 tot (n - tot) _ (by omega) (by omega) ty
    · rw [if_neg h3, show n - tot = 0 by omega]
      simp [Builtin.clear_, run_underlying slice_span]
  have hcl0 : ∀ ty a, (Builtin.clear_ #[24] ty #[.slice a 0 0]).run Try.prog W2 = .ok (.tuple #[]) W2 := fun ty a => by
    cases a <;> simp [Builtin.clear_, run_underlying slice_span]
  have h3 : RowAt (if tot < n then W2.setCells b (off + 2 * tot) (enc (List.replicate (n - tot) (0, 0))) else W2) b off c (l.take i ++ [x] ++ l.drop k) := by
    by_cases h3 : tot < n
    · rw [if_pos h3]
      have h4 := (h2.put tot (List.replicate (n - tot) (0, 0)) (by omega) (by simp; omega)).short tot
      rwa [List.append_assoc, List.take_append_of_le_length (by rw [List.length_take]; omega), List.take_take, Nat.min_self, t2] at h4
    · rw [if_neg h3]
      have h4 := h2.short tot
      rwa [t2] at h4
  have hO3 : Only (fun k => k = b) W (if tot < n then W2.setCells b (off + 2 * tot) (enc (List.replicate (n - tot) (0, 0))) else W2) := by
    by_cases h3 : tot < n
    · rw [if_pos h3]; exact hO2.trans (only_setCells b _ W2 _)
    · rw [if_neg h3]; exact hO2
  have hcap := h.cap
  obtain ⟨W3, hW3⟩ : ∃ y, (if tot < n then W2.setCells b (off + 2 * tot) (enc (List.replicate (n - tot) (0, 0))) else W2) = y := ⟨_, rfl⟩
  rw [hW3] at hcl h3 hO3
  have HP := Aside0.mk (show Ins W (some ⟨b, off, none⟩) (l.take i ++ [x] ++ l.drop k) (.returned (.slice (some ⟨b, off, none⟩) tot c)) W3 from
    ⟨some ⟨b, off, none⟩, c, by rw [hlt2], .inr ⟨b, off, rfl, h3⟩, hO3.imp (fun k _ e => by rw [e]; rfl), .inl rfl⟩)
  rw [hn] at hk hlc hl ⊢
  have q1 : ¬ ((i : Int) = (k : Int)) := by omega
  have q2 : ¬ ((k : Int) = (n : Int)) := by omega
  have q3 : ¬ (c = i) := by omega
  have q4 : ¬ (c = k) := by omega
  have q5 : ¬ (c = i + 1) := by omega
  have q6 : i ≤ n := by omega
  have q7 : i ≤ k := by omega
  have q8 : k ≤ n := by omega
  have q9 : tot ≤ n := by omega
  have q10 : i + 1 ≤ tot := by omega
  have q11 : i ≤ tot := by omega
  have e1 : (i : Int) + 1 + ((n - k : Nat) : Int) = ((tot : Nat) : Int) := by omega
  have HW1 := Aside0.mk hW1
  have HW2 := Aside0.mk hW2
  have HW3 := Aside0.mk hW3
  have HC1 := Aside0.mk hcp1
  have HC2 := Aside0.mk hcp2
  have HC3 := Aside0.mk hcl
  have HC4 := Aside0.mk hcl0
  have HT := Aside0.mk htot
  clear hW1 hW2 hW3 h h1 h2 h3 hv hD hvD h1D hO1 hO2 hO3 hl1 hl2 t1 t2 d1 n1 n2 hdl hlt2 hn hcp1 hcp2 hcl hcl0 htot
  go_enter Try.func19, Try.ntmps19
  go_upto_region 9 with fail
  go_big_region
  have q12 : (i : Int) + 1 ≤ (k : Int) := by omega
  have hw1 : IntKind.i64.wrap ((i : Int) + 1) = (i : Int) + 1 := by rw [IntKind.wrap_i64]; omega
  have hb1 : (0 : Int) ≤ (i : Int) + 1 := by omega
  have htn : ((i : Int) + 1).toNat = i + 1 := by omega
  have q13 : (i : Int) + 1 ≤ (tot : Int) := by omega
  have q14 : tot ≤ c := by omega
  have q15 : (i : Int) + 1 ≤ (c : Int) := by omega
  go_wp2_with (refine wpList_copy_runI _ rfl _ _ 24 24 rfl _ _ rfl rfl (HC1.out _ _) ?_)
  go_region_law_o (refine step_copy_runI rfl _ _ 24 24 rfl (.slice (some ⟨b, off + (i + 1) * 2, none⟩) (tot - (i + 1)) (c - (i + 1))) (.slice (some ⟨b, off + k * 2, none⟩) (n - k) (c - k)) (by simp [Act.eval, Act.put]) (by simp [Act.eval, Act.put]) (HC2.out W1.drew rfl 3 (c - (i + 1)) (c - k)) ?_)
  rw [HW2.out]
  by_cases hct : c = tot
  · subst hct
    have hW := HW3.out
    rw [if_neg (by omega)] at hW
    subst hW
    have hcl0 := HC4.out
    go_wp2
    go_ret
    exact HP.out
  · have hcl := HC3.out
    go_wp2
    go_ret
    exact HP.out

/-- slices.Replace of some spans by one. -/
theorem replace_calls {W : World} {A : Option Addr} {c vb i k : Nat} {l : List Spn} {x : Spn} (h : Row W A c l) (hv : RowAt W vb 0 1 [x]) (hne : ∀ a, A = some a → vb ≠ a.block) (hik : i ≤ k) (hk : k ≤ l.length) (hl : l.length ≤ 1000) :
    Calls Try.prog 19 #[.slice A l.length c, .int .i64 i, .int .i64 k, .slice (some ⟨vb, 0, none⟩) 1 1] W (Ins W A (l.take i ++ [x] ++ l.drop k)) := by
  by_cases he : i = k
  · subst he
    exact replace_ins h hv hne hk hl
  · rcases h with ⟨rfl, rfl, rfl⟩ | ⟨b, off, rfl, h⟩
    · simp at hk; omega
    · by_cases hn : k = l.length
      · subst hn
        rw [List.drop_eq_nil_of_le (Nat.le_refl _), List.append_nil]
        exact replace_end h hv (hne _ rfl) (by omega) hl
      · exact replace_mid h hv (hne _ rfl) (by omega) (by omega) hl
end Go.Proofs.Ytpihkmpcnkhnfaa.Sp
