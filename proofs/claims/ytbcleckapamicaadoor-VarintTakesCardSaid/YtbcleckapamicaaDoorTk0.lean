/- What is given to the print of VarintTakes: the document's Take hands back cuts of its argument, read where they lie. Written by mk-take.py (a program of this session). -/
import Derived.Test.YtbcleckapamicaaDoorQVax2
import Derived.Test.YtbcleckapamicaaDoorQVax3
namespace Go.Proofs.YtbcleckapamicaaDoor.Tk
open Go.RowKit Go.Proofs.YtbcleckapamicaaDoorW.PrintWords Go.Proofs.YtbcleckapamicaaDoorW.PrintLast Go.Proofs.YtbcleckapamicaaDoorW.PrintMore
open Go.Proofs.YtbcleckapamicaaDoor.QVa (shibbolethref01_Read.f shibbolethref01_Read.calls shibbolethref01_Read.mono)
set_option linter.unusedVariables false
set_option linter.unusedSimpArgs false

theorem info5 : (Tryd.prog.info? 5).map (fun i => (i.zero, i.size, i.bytes)) = some (some (.int .u8 0), 1, 1) := by kernel_rfl
def shibbolethref01_Take.f (k : Nat) (l0 : List Int) : Option (List Int × List Int × Int) := (shibbolethref01_Read.f k l0).bind fun bt => (if bt.2.2 = 0 then (if bt.1 > (wrap64 ((l0.length : Int) - bt.2.1)) then (some (([] : List Int), ([] : List Int), 2)) else (if 0 ≤ bt.2.1 then (if bt.2.1 ≤ (wrap64 (bt.2.1 + bt.1)) then (if (wrap64 (bt.2.1 + bt.1)) ≤ (l0.length : Int) then (some ((l0.take ((wrap64 (bt.2.1 + bt.1)) : Int).toNat).drop (bt.2.1 : Int).toNat, l0.drop ((wrap64 (bt.2.1 + bt.1)) : Int).toNat, 0)) else (none)) else (none)) else (none))) else (some (([] : List Int), ([] : List Int), bt.2.2)))
theorem shibbolethref01_Take.mono (l0 : List Int) (k : Nat) : LeO (shibbolethref01_Take.f k l0) (shibbolethref01_Take.f (k + 1) l0) := by
  unfold shibbolethref01_Take.f
  exact LeO.bind (shibbolethref01_Read.mono _ _) (fun _ => LeO.refl _)
set_option maxHeartbeats 8000000 in
set_option maxRecDepth 100000 in
theorem shibbolethref01_Take.calls (k : Nat) (A0 : Option Addr) (c0 : Nat) (l0 : List Int) (r1 r2 : List Int) (r3 : Int) (w : World) (hr0 : Kd.C (Kd.int .u8) w A0 l0.length l0) (hc0 : l0.length ≤ c0) (h : shibbolethref01_Take.f k l0 = some (r1, r2, r3)) :
    Calls Tryd.prog 30 #[.slice A0 l0.length c0] w fun e w' => ∃ A1 c1 A2 c2, e = .returned (.tuple #[.slice A1 r1.length c1, .slice A2 r2.length c2, .int .i64 r3]) ∧ Kd.C (Kd.int .u8) w' A1 r1.length r1 ∧ r1.length ≤ c1 ∧ Kd.C (Kd.int .u8) w' A2 r2.length r2 ∧ r2.length ≤ c2 ∧ Drawn0 w w' := by
  have HR0 := Aside0.mk hr0
  have HC0 := Aside0.mk hc0
  clear hr0 hc0
  unfold shibbolethref01_Take.f at h
  obtain ⟨⟨n, s, e⟩, hread, h⟩ := Option.bind_eq_some_iff.mp h
  have HRd := shibbolethref01_Read.calls k A0 c0 l0 n s e w HR0.out HC0.out hread
  clear hread
  have hnil : Kd.C (Kd.int .u8) w none ([] : List Int).length [] := (Kd.R_reads' (Kd.R_nil (Kd.int .u8) 5 w 0 (fun _ => True))).2.2
  simp only [] at h
  by_cases h3 : e = 0
  · rw [if_pos h3] at h
    subst h3
    by_cases h4 : n > wrap64 ((l0.length : Int) - s)
    · rw [if_pos h4] at h
      simp only [Option.some.injEq, Prod.mk.injEq] at h
      obtain ⟨rfl, rfl, rfl⟩ := h
      have HN := Aside0.mk hnil
      clear hnil
      have h4b : decide (wrap64 ((l0.length : Int) - s) < n) = true := decide_eq_true h4
      clear h4
      go_enter Tryd.func30, Tryd.ntmps30
      go_wp2_with (go_at_call 28; refine HRd.mono ?_; rintro e w' ⟨rfl, ⟨nd, rfl⟩⟩)
      go_ret3
      exact ⟨none, 0, none, 0, rfl, Kd.C_drewN HN.out _, Nat.le_refl _, Kd.C_drewN HN.out _, Nat.le_refl _, ⟨⟨_, rfl⟩⟩⟩
    · rw [if_neg h4] at h
      have h4b : decide (wrap64 ((l0.length : Int) - s) < n) = false := decide_eq_false h4
      clear h4
      by_cases h5 : 0 ≤ s
      · rw [if_pos h5] at h
        by_cases h6 : s ≤ wrap64 (s + n)
        · rw [if_pos h6] at h
          by_cases h7 : wrap64 (s + n) ≤ (l0.length : Int)
          · rw [if_pos h7] at h
            obtain ⟨j, hj⟩ : ∃ j : Int, wrap64 (s + n) = j := ⟨_, rfl⟩
            rw [hj] at h h6 h7
            have hjw : (IntKind.i64.wrap (s + n)) = j := (i64_w _).trans hj
            simp only [Option.some.injEq, Prod.mk.injEq] at h
            obtain ⟨rfl, rfl, rfl⟩ := h
            obtain ⟨i014, hi014, _, hsz14, _⟩ := info_parts info5
            obtain ⟨A14, hcut14, hA14, hC14⟩ := print_mid_of (P := Tryd.prog) (Value.int .u8) 0 22 5 .i64 .i64 Tryd.underlying22 hi014 hsz14 A0 c0 l0 s j h5 h6 h7 HC0.out
            obtain ⟨A15, hcut15, hA15, hC15⟩ := print_drop_of (P := Tryd.prog) (Value.int .u8) 0 22 5 .i64 Tryd.underlying22 hi014 hsz14 A0 c0 l0 j (by omega) h7 HC0.out
            have H1 := Aside0.mk (Kd.C_of_reads (h1 := fun _ => rfl) (hA14 _ (Kd.reads_of_C HR0.out)))
            have H2 := Aside0.mk (Kd.C_of_reads (h1 := fun _ => rfl) (hA15 _ (Kd.reads_of_C HR0.out)))
            have D1 := Aside0.mk hC14
            have D2 := Aside0.mk hC15
            clear hA14 hA15 hC14 hC15 hi014 hsz14 hnil h5 h6 h7
            go_enter Tryd.func30, Tryd.ntmps30
            try go_wp2_with (go_at_call 28; refine HRd.mono ?_; rintro e w' ⟨rfl, ⟨nd, rfl⟩⟩)
            refine start_ (n := 14) (S := fun w' => True) (ds := []) #[false, false, false, false, false, false, false, false, false, false, false, false, false, false] (by kernel_rfl) rfl rfl trivial (fun hHeld => ?_)
            refine pure_ (i := 0) (N := some 23) (v := ?_) (a' := ?_) #[true, false, false, false, false, false, false, false, false, false, false, false, false, false] rfl rfl (by kernel_rfl) (fun _ _ _ h => h) (Or.inl ⟨by rfl, ?_⟩) ?_ ?_
            rotate_left
            · intro w'
              go_simp
              with_reducible rfl
            rotate_left
            · simp only [Act.put, List.setIfInBounds_toArray, List.set_cons_zero, List.set_cons_succ, i64_w, i32_w]
              rfl
            refine pure_ (i := 1) (N := some 24) (v := ?_) (a' := ?_) #[true, true, false, false, false, false, false, false, false, false, false, false, false, false] rfl rfl (by kernel_rfl) (fun _ _ _ h => h) (Or.inl ⟨by rfl, ?_⟩) ?_ ?_
            rotate_left
            · intro w'
              go_simp
              with_reducible rfl
            rotate_left
            · simp only [Act.put, List.setIfInBounds_toArray, List.set_cons_zero, List.set_cons_succ, i64_w, i32_w]
              rfl
            refine pure_ (i := 2) (N := some 25) (v := ?_) (a' := ?_) #[true, true, true, false, false, false, false, false, false, false, false, false, false, false] rfl rfl (by kernel_rfl) (fun _ _ _ h => h) (Or.inl ⟨by rfl, ?_⟩) ?_ ?_
            rotate_left
            · intro w'
              go_simp
              with_reducible rfl
            rotate_left
            · simp only [Act.put, List.setIfInBounds_toArray, List.set_cons_zero, List.set_cons_succ, i64_w, i32_w]
              rfl
            refine pure_ (i := 3) (N := some 26) (v := ?_) (a' := ?_) #[true, true, true, true, false, false, false, false, false, false, false, false, false, false] rfl rfl (by kernel_rfl) (fun _ _ _ h => h) (Or.inl ⟨by rfl, ?_⟩) ?_ ?_
            rotate_left
            · intro w'
              go_simp
              with_reducible rfl
            rotate_left
            · simp only [Act.put, List.setIfInBounds_toArray, List.set_cons_zero, List.set_cons_succ, i64_w, i32_w]
              rfl
            refine pure_ (i := 4) (N := some 27) (v := ?_) (a' := ?_) #[true, true, true, true, true, false, false, false, false, false, false, false, false, false] rfl rfl (by kernel_rfl) (fun _ _ _ h => h) (Or.inl ⟨by rfl, ?_⟩) ?_ ?_
            rotate_left
            · intro w'
              go_simp
              with_reducible rfl
            rotate_left
            · simp only [Act.put, List.setIfInBounds_toArray, List.set_cons_zero, List.set_cons_succ, i64_w, i32_w]
              rfl
            refine pure_ (i := 5) (N := some 28) (v := ?_) (a' := ?_) #[true, true, true, true, true, true, false, false, false, false, false, false, false, false] rfl rfl (by kernel_rfl) (fun _ _ _ h => h) (Or.inl ⟨by rfl, ?_⟩) ?_ ?_
            rotate_left
            · intro w'
              go_simp
              with_reducible rfl
            rotate_left
            · simp only [Act.put, List.setIfInBounds_toArray, List.set_cons_zero, List.set_cons_succ, i64_w, i32_w]
              rfl
            refine pure_ (i := 6) (N := some 29) (v := ?_) (a' := ?_) #[true, true, true, true, true, true, true, false, false, false, false, false, false, false] rfl rfl (by kernel_rfl) (fun _ _ _ h => h) (Or.inl ⟨by rfl, ?_⟩) ?_ ?_
            rotate_left
            · intro w'
              go_simp
              with_reducible rfl
            rotate_left
            · simp only [Act.put, List.setIfInBounds_toArray, List.set_cons_zero, List.set_cons_succ, i64_w, i32_w]
              rfl
            refine pure_ (i := 7) (N := some 30) (v := ?_) (a' := ?_) #[true, true, true, true, true, true, true, true, false, false, false, false, false, false] rfl rfl (by kernel_rfl) (fun _ _ _ h => h) (Or.inl ⟨by rfl, ?_⟩) ?_ ?_
            rotate_left
            · intro w'
              go_simp
              with_reducible rfl
            rotate_left
            · simp only [Act.put, List.setIfInBounds_toArray, List.set_cons_zero, List.set_cons_succ, i64_w, i32_w]
              rfl
            refine pure_ (i := 8) (N := some 31) (v := ?_) (a' := ?_) #[true, true, true, true, true, true, true, true, true, false, false, false, false, false] rfl rfl (by kernel_rfl) (fun _ _ _ h => h) (Or.inl ⟨by rfl, ?_⟩) ?_ ?_
            rotate_left
            · intro w'
              go_simp
              with_reducible rfl
            rotate_left
            · simp only [Act.put, List.setIfInBounds_toArray, List.set_cons_zero, List.set_cons_succ, i64_w, i32_w]
              rfl
            refine pure_ (i := 9) (N := some 32) (v := ?_) (a' := ?_) #[true, true, true, true, true, true, true, true, true, true, false, false, false, false] rfl rfl (by kernel_rfl) (fun _ _ _ h => h) (Or.inl ⟨by rfl, ?_⟩) ?_ ?_
            rotate_left
            · intro w'
              go_simp
              with_reducible rfl
            rotate_left
            · simp only [Act.put, List.setIfInBounds_toArray, List.set_cons_zero, List.set_cons_succ, i64_w, i32_w]
              rfl
            refine pure_ (i := 10) (N := some 33) (v := ?_) (a' := ?_) #[true, true, true, true, true, true, true, true, true, true, true, false, false, false] rfl rfl (by kernel_rfl) (fun _ _ _ h => h) (Or.inl ⟨by rfl, ?_⟩) ?_ ?_
            rotate_left
            · intro w'
              go_simp
              with_reducible rfl
            rotate_left
            · simp only [Act.put, List.setIfInBounds_toArray, List.set_cons_zero, List.set_cons_succ, i64_w, i32_w]
              rfl
            refine pure_ (i := 11) (N := some 2) (v := ?_) (a' := ?_) #[true, true, true, true, true, true, true, true, true, true, true, true, false, false] rfl rfl (by kernel_rfl) (fun _ _ _ h => h) (Or.inl ⟨by rfl, ?_⟩) ?_ ?_
            rotate_left
            · intro w'
              go_simp
              with_reducible rfl
            rotate_left
            · simp only [Act.put, List.setIfInBounds_toArray, List.set_cons_zero, List.set_cons_succ, i64_w, i32_w]
              rfl
            refine pure_ (i := 12) (N := some 3) (v := ?_) (a' := ?_) #[true, true, true, true, true, true, true, true, true, true, true, true, true, false] rfl rfl (by kernel_rfl) (fun _ _ _ h => h) (Or.inl ⟨by rfl, ?_⟩) ?_ ?_
            rotate_left
            · intro w'
              go_simp
              with_reducible rfl
            rotate_left
            · simp only [Act.put, List.setIfInBounds_toArray, List.set_cons_zero, List.set_cons_succ, i64_w, i32_w]
              rfl
            refine pure_ (i := 13) (N := some 4) (v := ?_) (a' := ?_) #[true, true, true, true, true, true, true, true, true, true, true, true, true, true] rfl rfl (by kernel_rfl) (fun _ _ _ h => h) (Or.inl ⟨by rfl, ?_⟩) ?_ ?_
            rotate_left
            · intro w'
              go_simp
              with_reducible rfl
            rotate_left
            · simp only [Act.put, List.setIfInBounds_toArray, List.set_cons_zero, List.set_cons_succ, i64_w, i32_w]
              rfl
            · refine done_ (by kernel_rfl) ?_
              try go_wp2
              go_ret3
              exact ⟨A14, c0 - s.toNat, A15, c0 - j.toNat, by first | rfl | (simp; done) | (simp; rfl), Kd.C_drew (Kd.C_drewN H1.out _), D1.out, Kd.C_drew (Kd.C_drewN H2.out _), D2.out, ⟨⟨nd + 1, by first | rfl | (simp [World.drewN, World.drew, Nat.add_assoc]; done)⟩⟩⟩
          · rw [if_neg h7] at h; cases h
        · rw [if_neg h6] at h; cases h
      · rw [if_neg h5] at h; cases h
  · rw [if_neg h3] at h
    simp only [Option.some.injEq, Prod.mk.injEq] at h
    obtain ⟨rfl, rfl, rfl⟩ := h
    have HN := Aside0.mk hnil
    clear hnil
    have h3b : (e != 0) = true := bne_iff_ne.mpr h3
    clear h3
    go_enter Tryd.func30, Tryd.ntmps30
    go_wp2_with (go_at_call 28; refine HRd.mono ?_; rintro e w' ⟨rfl, ⟨nd, rfl⟩⟩)
    go_ret3
    exact ⟨none, 0, none, 0, rfl, Kd.C_drewN HN.out _, Nat.le_refl _, Kd.C_drewN HN.out _, Nat.le_refl _, ⟨⟨_, rfl⟩⟩⟩
end Go.Proofs.YtbcleckapamicaaDoor.Tk
