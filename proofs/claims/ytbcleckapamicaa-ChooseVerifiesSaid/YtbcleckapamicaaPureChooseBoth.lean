/- ChooseBoth holds for every input: what a server picks stands on both lists, and nothing ahead of it on the server's is on the client's. No condition. -/
import Derived.Test.YtbcleckapamicaaQChx1
namespace Go.Proofs.Ytbcleckapamicaa.Pure
open Go.RowKit Go.Proofs.Ytbcleckapamicaa.QCh Go.Proofs.YtbcleckapamicaaW.PrintWords Go.Proofs.YtbcleckapamicaaW.PrintLast
set_option linter.unusedVariables false
open Go.Proofs.Ytbcleckapamicaa.Ch (firstIn rd_nat choose_first.f choose_React.f)

theorem pick_f (l a : List Int) : choose_Pick.f l a = some (firstIn l a) := rfl
theorem awake_f : shibbolethlaw19_awake.f = some true := by decide +kernel

theorem firstIn_none (l a : List Int) (h : ∀ n, n ∈ l → n ∉ a) : firstIn l a = 0 := by
  unfold firstIn
  rw [List.find?_eq_none.2 (fun x hx => by simpa using h x hx)]; rfl
theorem firstIn_at (l a : List Int) (i : Nat) (hi : i < l.length) (h : l[i] ∈ a) (hb : ∀ j (hj : j < i), l[j] ∉ a) : firstIn l a = l[i] := by
  unfold firstIn
  have : l.find? (fun n => decide (n ∈ a)) = some l[i] := by
    rw [List.find?_eq_some_iff_getElem]
    exact ⟨by simpa using h, i, hi, rfl, fun j hj => by simpa using hb j hj⟩
  rw [this]; rfl

/-- The inner loop, and then what stands behind it. -/
theorem inner (x0 x1 : List Int) (h1 : x1.length ≤ 30) (h0 : x0.length ≤ 30) (i : Nat) (hi : i < x0.length) (hb : ∀ j (hj : j < i), x0[j] ∉ x1) (N : Nat)
    (next : (x0[i] ∉ x1) → ∀ k, N < k → shibbolethlaw19_ChooseBoth.l0 k x0 x1 (firstIn x0 x1) ((i + 1 : Nat) : Int) = some true) :
    ∀ (e j k : Nat), j + e = x1.length → N + e + 1 < k → (∀ j' (hj : j' < j) (hl : j' < x1.length), x1[j'] ≠ x0[i]) → shibbolethlaw19_ChooseBoth.l1 k x0 x1 (firstIn x0 x1) (i : Int) (j : Int) = some true := by
  intro e
  induction e with
  | zero =>
    intro j k hj hk hn
    obtain ⟨k, rfl⟩ : ∃ m, k = m + 1 := ⟨k - 1, by omega⟩
    simp only [shibbolethlaw19_ChooseBoth.l1]
    rw [if_neg (by omega), show wrap64 ((i : Int) + 1) = ((i + 1 : Nat) : Int) from by unfold wrap64; omega]
    refine next (fun hm => ?_) k (by omega)
    obtain ⟨j', hj', e⟩ := List.mem_iff_getElem.1 hm
    exact hn j' (by omega) hj' e
  | succ e ih =>
    intro j k hj hk hn
    obtain ⟨k, rfl⟩ : ∃ m, k = m + 1 := ⟨k - 1, by omega⟩
    have hjl : j < x1.length := by omega
    simp only [shibbolethlaw19_ChooseBoth.l1]
    rw [if_pos (by omega), if_pos (by omega), if_pos (by omega), if_pos (by omega), rd_nat x0 i hi, rd_nat x1 j hjl]
    by_cases hq : x0[i] = x1[j]
    · rw [if_pos hq, firstIn_at x0 x1 i hi (by rw [hq]; exact List.getElem_mem hjl) hb, if_pos rfl, awake_f]; rfl
    · rw [if_neg hq, show wrap64 ((j : Int) + 1) = ((j + 1 : Nat) : Int) from by unfold wrap64; omega]
      refine ih (j + 1) k (by omega) (by omega) (fun j' hj' hl => ?_)
      by_cases he : j' = j
      · subst he; exact fun h => hq h.symm
      · exact hn j' (by omega) hl

theorem outer (x0 x1 : List Int) (h1 : x1.length ≤ 30) (h0 : x0.length ≤ 30) : ∀ (d i k : Nat), i + d = x0.length → d * (x1.length + 3) < k → (∀ j (hj : j < i) (hl : j < x0.length), x0[j] ∉ x1) →
    shibbolethlaw19_ChooseBoth.l0 k x0 x1 (firstIn x0 x1) (i : Int) = some true := by
  intro d
  induction d with
  | zero =>
    intro i k hi hk hb
    obtain ⟨k, rfl⟩ : ∃ m, k = m + 1 := ⟨k - 1, by omega⟩
    simp only [shibbolethlaw19_ChooseBoth.l0]
    rw [if_neg (by omega), firstIn_none x0 x1 (fun n hn => by obtain ⟨j, hj, rfl⟩ := List.mem_iff_getElem.1 hn; exact hb j (by omega) hj), if_pos rfl, awake_f]; rfl
  | succ d ih =>
    intro i k hi hk hb
    obtain ⟨k, rfl⟩ : ∃ m, k = m + 1 := ⟨k - 1, by omega⟩
    have hil : i < x0.length := by omega
    simp only [shibbolethlaw19_ChooseBoth.l0]
    rw [if_pos (by omega)]
    rw [Nat.succ_mul] at hk
    refine inner x0 x1 h1 h0 i hil (fun j hj => hb j hj (by omega)) (d * (x1.length + 3)) (fun hni k hk => ih (i + 1) k (by omega) hk (fun j hj hl => ?_)) x1.length 0 k (by omega) (by omega) (fun j hj => absurd hj (Nat.not_lt_zero _))
    by_cases he : j = i
    · subst he; exact hni
    · exact hb j (by omega) hl

theorem ChooseBoth : shibbolethlaw19_ChooseBoth.Pure := by
  intro l0 l1 _ _ _ _ _ _
  refine ⟨l0.length * (l1.length + 3) + 2, ?_⟩
  unfold shibbolethlaw19_ChooseBoth.f
  by_cases h0 : (l0.length : Int) > 30
  · rw [if_pos h0]; simp [shibbolethlaw19_ChooseBoth.j0]
  · rw [if_neg h0]
    simp only [shibbolethlaw19_ChooseBoth.j0]
    by_cases h1 : (l1.length : Int) > 30
    · rw [decide_eq_true h1]; rfl
    · rw [decide_eq_false h1, if_neg (by decide), pick_f]
      exact outer l0 l1 (by omega) (by omega) l0.length 0 _ (by omega) (by omega) (fun j hj => absurd hj (Nat.not_lt_zero _))

end Go.Proofs.Ytbcleckapamicaa.Pure
