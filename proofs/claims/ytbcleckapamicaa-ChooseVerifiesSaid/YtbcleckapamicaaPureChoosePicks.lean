/- ChoosePicks holds for every input: what a server picks, what a client does that is told any list, and whether a choice is verified, are the document's. No condition. -/
import Derived.Test.YtbcleckapamicaaQChx2
import Derived.Test.YtbcleckapamicaaPureChooseBoth
namespace Go.Proofs.Ytbcleckapamicaa.Pure
open Go.RowKit Go.Proofs.Ytbcleckapamicaa.QCh Go.Proofs.YtbcleckapamicaaW.PrintWords Go.Proofs.YtbcleckapamicaaW.PrintLast
open Go.Proofs.Ytbcleckapamicaa.Ch (firstIn rd_nat choose_first.f choose_React.f)
set_option linter.unusedVariables false

theorem in_l (l : List Int) (x : Int) (hl : l.length ≤ 30) : ∀ (d i k : Nat), i + d = l.length → d < k → shibbolethref19_in.l0 k l x (i : Int) = some (decide (x ∈ l.drop i)) := by
  intro d
  induction d with
  | zero =>
    intro i k hi hk
    obtain ⟨k, rfl⟩ : ∃ m, k = m + 1 := ⟨k - 1, by omega⟩
    simp only [shibbolethref19_in.l0]
    rw [if_neg (by omega), List.drop_of_length_le (by omega)]; simp
  | succ d ih =>
    intro i k hi hk
    obtain ⟨k, rfl⟩ : ∃ m, k = m + 1 := ⟨k - 1, by omega⟩
    have hlt : i < l.length := by omega
    have hd : l.drop i = l[i] :: l.drop (i + 1) := List.drop_eq_getElem_cons hlt
    simp only [shibbolethref19_in.l0]
    rw [if_pos (by omega), if_pos (by omega), rd_nat l i hlt]
    by_cases e : l[i] = x
    · rw [if_pos e, decide_eq_true (show x ∈ l.drop i by rw [hd]; exact List.mem_cons.2 (.inl e.symm))]
    · rw [if_neg e, show wrap64 ((i : Int) + 1) = ((i + 1 : Nat) : Int) from by unfold wrap64; omega, ih (i + 1) k (by omega) (by omega)]
      congr 1
      rw [decide_eq_decide]
      exact ⟨fun hx => by rw [hd]; exact List.mem_cons_of_mem _ hx, fun hx => by rw [hd] at hx; exact (List.mem_cons.1 hx).resolve_left (fun h => e h.symm)⟩
theorem in_f (l : List Int) (x : Int) (hl : l.length ≤ 30) (k : Nat) (hk : 30 < k) : shibbolethref19_in.f k l x = some (decide (x ∈ l)) := by
  have := in_l l x hl l.length 0 k (by omega) (by omega)
  rwa [List.drop_zero] at this

theorem first_l (l a : List Int) (hl : l.length ≤ 30) (ha : a.length ≤ 30) : ∀ (d i k : Nat), i + d = l.length → 31 + d < k → (∀ j (hj : j < i) (hjl : j < l.length), l[j] ∉ a) →
    shibbolethref19_First.l0 k l a (i : Int) = some (firstIn l a, decide (∃ n, n ∈ l ∧ n ∈ a)) := by
  intro d
  induction d with
  | zero =>
    intro i k hi hk hb
    obtain ⟨k, rfl⟩ : ∃ m, k = m + 1 := ⟨k - 1, by omega⟩
    have hn : ∀ n, n ∈ l → n ∉ a := fun n hn => by obtain ⟨j, hj, rfl⟩ := List.mem_iff_getElem.1 hn; exact hb j (by omega) hj
    simp only [shibbolethref19_First.l0]
    rw [if_neg (by omega), firstIn_none l a hn, decide_eq_false (fun ⟨n, h1, h2⟩ => hn n h1 h2)]
  | succ d ih =>
    intro i k hi hk hb
    obtain ⟨k, rfl⟩ : ∃ m, k = m + 1 := ⟨k - 1, by omega⟩
    have hil : i < l.length := by omega
    simp only [shibbolethref19_First.l0]
    rw [if_pos (by omega), if_pos (by omega), rd_nat l i hil, in_f a _ ha k (by omega)]
    simp only [Option.bind_some]
    by_cases e : l[i] ∈ a
    · rw [decide_eq_true e, if_pos rfl, firstIn_at l a i hil e (fun j hj => hb j hj (by omega)), decide_eq_true ⟨l[i], List.getElem_mem hil, e⟩]
    · rw [decide_eq_false e, if_neg (by decide), show wrap64 ((i : Int) + 1) = ((i + 1 : Nat) : Int) from by unfold wrap64; omega]
      refine ih (i + 1) k (by omega) (by omega) (fun j hj hjl => ?_)
      by_cases he : j = i
      · subst he; exact e
      · exact hb j (by omega) hjl
theorem first_f (l a : List Int) (hl : l.length ≤ 30) (ha : a.length ≤ 30) (k : Nat) (hk : 70 < k) : shibbolethref19_First.f k l a = some (firstIn l a, decide (∃ n, n ∈ l ∧ n ∈ a)) :=
  first_l l a hl ha l.length 0 k (by omega) (by omega) (fun j hj => absurd hj (Nat.not_lt_zero _))

def reactS (l0 l1 : List Int) (a2 : Int) : Int × Int :=
  if a2 ∈ l0 then (0, 12) else if ∃ n, n ∈ l1 ∧ n ∈ l0 then (firstIn l1 l0, 0) else (0, 13)
theorem react_f (l0 l1 : List Int) (a2 : Int) : choose_React.f l0 l1 a2 = some (reactS l0 l1 a2) := by
  unfold choose_React.f reactS
  split
  · rfl
  · split <;> rfl
theorem refReact_f (l0 l1 : List Int) (a2 : Int) (h0 : l0.length ≤ 30) (h1 : l1.length ≤ 30) (k : Nat) (hk : 70 < k) : shibbolethref19_React.f k l0 l1 a2 = some (reactS l0 l1 a2) := by
  unfold shibbolethref19_React.f reactS
  rw [in_f l0 a2 h0 k (by omega), first_f l1 l0 h1 h0 k hk]
  simp only [Option.bind_some]
  by_cases e : a2 ∈ l0
  · rw [decide_eq_true e, if_pos rfl, if_pos e]
  · rw [decide_eq_false e, if_neg (by decide), if_neg e]
    by_cases e2 : ∃ n, n ∈ l1 ∧ n ∈ l0
    · rw [decide_eq_true e2, if_pos rfl, if_pos e2]
    · rw [decide_eq_false e2, if_neg (by decide), if_neg e2]
theorem verify_f (o s : List Int) (n : Int) : choose_Verify.f o s n = some (if n = 0 then 13 else if firstIn s o = n then 0 else 13) := by
  unfold choose_Verify.f
  rw [pick_f]
  simp only [Option.bind_some]
  split
  · rfl
  · split <;> rfl

theorem ChoosePicks : shibbolethlaw19_ChoosePicks.Pure := by
  intro l0 l1 a2 _ _ _ _ _ _ _
  refine ⟨100, ?_⟩
  unfold shibbolethlaw19_ChoosePicks.f
  by_cases h0 : (l0.length : Int) > 30
  · rw [if_pos h0]; simp [shibbolethlaw19_ChoosePicks.j0]
  · rw [if_neg h0]
    simp only [shibbolethlaw19_ChoosePicks.j0]
    by_cases h1 : (l1.length : Int) > 30
    · rw [decide_eq_true h1]; rfl
    · rw [decide_eq_false h1, if_neg (by decide), first_f l0 l1 (by omega) (by omega) 99 (by omega), react_f, refReact_f l0 l1 a2 (by omega) (by omega) 99 (by omega), verify_f, pick_f, awake_f]
      simp only [Option.bind_some]
      rw [if_pos trivial, if_pos trivial, if_pos trivial]
      by_cases e : a2 = 0
      · simp [e]
      · by_cases e2 : firstIn l0 l1 = a2
        · simp [e, e2]
        · have e3 : (a2 == firstIn l0 l1) = false := by simp; exact fun h => e2 h.symm
          simp [e, e2, e3]
end Go.Proofs.Ytbcleckapamicaa.Pure
