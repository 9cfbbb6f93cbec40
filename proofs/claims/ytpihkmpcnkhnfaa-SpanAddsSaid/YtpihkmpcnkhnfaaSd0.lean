/- The document's set of numbers, plainly, against the spans. -/
import Derived.Test.YtpihkmpcnkhnfaaSq0
namespace Go.Proofs.Ytpihkmpcnkhnfaa.Sp
set_option linter.unusedVariables false
set_option linter.unusedSimpArgs false

def cons1 (n : Int) : List Spn → List Spn
  | [] => [(n, n)]
  | s :: r => if s.1 = n + 1 then (n, s.2) :: r else (n, n) :: s :: r
/-- The spans of numbers, the lowest first. -/
def spn (L : List Int) : List Spn := L.foldr cons1 []
theorem spn_cons (n : Int) (L : List Int) : spn (n :: L) = cons1 n (spn L) := rfl
/-- Numbers that rise. -/
def Srt : Int → List Int → Prop
  | _, [] => True
  | lo, x :: L => lo < x ∧ x ≤ 4611686018427387903 ∧ Srt x L
theorem srt_mono {L : List Int} {lo lo' : Int} (h : Srt lo L) (hl : lo' ≤ lo) : Srt lo' L := by
  cases L with
  | nil => trivial
  | cons x L => exact ⟨by have := h.1; omega, h.2⟩
theorem srt_low : ∀ {L : List Int} {lo y : Int}, Srt lo L → y ∈ L → lo < y ∧ y ≤ 4611686018427387903
  | [], _, _, _, h => by cases h
  | x :: L, lo, y, ⟨h1, h2, h3⟩, h => by
    rcases List.mem_cons.1 h with rfl | h
    · exact ⟨h1, h2⟩
    · have := srt_low h3 h; exact ⟨by omega, this.2⟩
theorem srt_drop : ∀ {L : List Int} {lo : Int} (k : Nat), Srt lo L → Srt lo (L.drop k)
  | [], _, k, _ => by simp [Srt]
  | x :: L, lo, 0, h => h
  | x :: L, lo, k + 1, ⟨h1, h2, h3⟩ => srt_mono (srt_drop k h3) (by omega)
theorem spn_gd : ∀ {L : List Int} {lo : Int}, Srt lo L → Gd lo (spn L)
  | [], _, _ => trivial
  | x :: L, lo, ⟨h1, h2, h3⟩ => by
    have ih := spn_gd h3
    rw [spn_cons]
    rcases hs : spn L with _ | ⟨s, r⟩
    · exact ⟨h1, Int.le_refl _, h2, trivial⟩
    · rw [hs] at ih
      obtain ⟨k1, k2, k3, k4⟩ := ih
      unfold cons1
      simp only
      split
      · exact ⟨h1, by simp only; omega, k3, k4⟩
      · exact ⟨h1, Int.le_refl _, h2, by simp only; omega, k2, k3, k4⟩
theorem spn_inn : ∀ {L : List Int} {lo : Int}, Srt lo L → ∀ y, Inn (spn L) y ↔ y ∈ L
  | [], _, _, y => by simp [spn, Inn]
  | x :: L, lo, ⟨h1, h2, h3⟩, y => by
    have ih := spn_inn h3 y
    have hg := spn_gd h3
    rw [spn_cons, List.mem_cons, ← ih]
    rcases hs : spn L with _ | ⟨s, r⟩
    · unfold cons1
      rw [inn_cons, inn_nil, or_false, or_false]; simp only; omega
    · rw [hs] at hg
      obtain ⟨k1, k2, k3, k4⟩ := hg
      unfold cons1
      simp only
      split
      · rw [inn_cons, inn_cons]; simp only; constructor
        · rintro (q | q)
          · by_cases e : y = x
            · exact .inl e
            · exact .inr (.inl (by omega))
          · exact .inr (.inr q)
        · rintro (q | q | q)
          · exact .inl (by omega)
          · exact .inl (by omega)
          · exact .inr q
      · rw [inn_cons]; simp only; constructor
        · rintro (q | q)
          · exact .inl (by omega)
          · exact .inr q
        · rintro (q | q)
          · exact .inl (by omega)
          · exact .inr q
theorem spn_len (L : List Int) : (spn L).length ≤ L.length := by
  induction L with
  | nil => exact Nat.le_refl _
  | cons x L ih =>
    rw [spn_cons]
    rcases hs : spn L with _ | ⟨s, r⟩
    · simp [cons1]
    · rw [hs] at ih
      unfold cons1
      simp only
      split <;> simp at ih ⊢ <;> omega

/-- A number is put among them. -/
def dins (n : Int) : List Int → List Int
  | [] => [n]
  | x :: L => if n < x then n :: x :: L else x :: dins n L
theorem dins_mem (n : Int) : ∀ (L : List Int) (y : Int), y ∈ dins n L ↔ y ∈ L ∨ y = n
  | [], y => by simp [dins]
  | x :: L, y => by
    rw [dins]
    split
    · rw [List.mem_cons]; exact or_comm
    · rw [List.mem_cons, List.mem_cons, dins_mem n L y, or_assoc]
theorem dins_srt {n : Int} : ∀ {L : List Int} {lo : Int}, Srt lo L → lo < n → n ≤ 4611686018427387903 → n ∉ L → Srt lo (dins n L)
  | [], _, _, h, hb, _ => ⟨h, hb, trivial⟩
  | x :: L, lo, ⟨h1, h2, h3⟩, h, hb, hn => by
    have hne : n ≠ x := fun e => hn (by rw [e]; exact List.mem_cons_self)
    rw [dins]
    split
    · exact ⟨h, hb, by omega, h2, h3⟩
    · exact ⟨h1, h2, dins_srt h3 (by omega) hb (fun q => hn (List.mem_cons_of_mem _ q))⟩
theorem dins_len (n : Int) : ∀ (L : List Int), (dins n L).length = L.length + 1
  | [] => rfl
  | x :: L => by
    rw [dins]
    split
    · rfl
    · simp [dins_len n L]
/-- As the document puts it: behind the last that is not greater. -/
theorem dins_at {n : Int} : ∀ {L : List Int} (k : Nat) (hk : k ≤ L.length), (∀ j (h : j < L.length), j < k → L[j] ≤ n) → (∀ j (h : j < L.length), k ≤ j → n < L[j]) → L.take k ++ n :: L.drop k = dins n L
  | [], k, _, _, _ => by simp [dins]
  | x :: L, 0, _, _, h2 => by
    have := h2 0 (by simp) (Nat.le_refl _)
    simp at this
    simp [dins, this]
  | x :: L, k + 1, hk, h1, h2 => by
    have hx := h1 0 (by simp) (by omega)
    simp at hx
    have ih := dins_at (n := n) (L := L) k (by simpa using hk) (fun j h hj => by have := h1 (j + 1) (by simp; exact h) (by omega); simpa using this) (fun j h hj => by have := h2 (j + 1) (by simp; exact h) (by omega); simpa using this)
    rw [List.take_succ_cons, List.drop_succ_cons, List.cons_append, ih, dins, if_neg (by omega)]

/-- What the document's adding does. -/
def docAdd (L : List Int) (f n : Int) : Bool × List Int × Int :=
  if (0 ≤ n ∧ n ≤ 4611686018427387903) ∧ f ≤ n ∧ n ∉ L then
    (if 32 < (spn (dins n L)).length then (true, (dins n L).drop (((spn (dins n L)).getD 0 (0, 0)).2 - ((spn (dins n L)).getD 0 (0, 0)).1 + 1).toNat, ((spn (dins n L)).getD 0 (0, 0)).2 + 1) else (true, dins n L, f))
  else (false, L, f)
theorem spn_drop : ∀ {L : List Int} {lo : Int} {s : Spn} {r : List Spn}, Srt lo L → spn L = s :: r → spn (L.drop (s.2 - s.1 + 1).toNat) = r
  | [], _, s, r, _, h => by cases h
  | x :: L, lo, s, r, ⟨h1, h2, h3⟩, h => by
    rw [spn_cons] at h
    have hg := spn_gd h3
    rcases hs : spn L with _ | ⟨t, r'⟩
    · rw [hs] at h
      simp only [cons1, List.cons.injEq] at h
      obtain ⟨rfl, rfl⟩ := h
      simp only [Int.sub_self, Int.zero_add]
      show spn L = []
      exact hs
    · rw [hs] at h hg
      obtain ⟨k1, k2, k3, k4⟩ := hg
      unfold cons1 at h
      simp only at h
      split at h
      · rename_i ht
        simp only [List.cons.injEq] at h
        obtain ⟨rfl, rfl⟩ := h
        have e : (t.2 - x + 1).toNat = (t.2 - t.1 + 1).toNat + 1 := by omega
        simp only
        rw [e, List.drop_succ_cons]
        exact spn_drop h3 hs
      · simp only [List.cons.injEq] at h
        obtain ⟨rfl, rfl⟩ := h
        simp only [Int.sub_self, Int.zero_add]
        show spn L = _
        exact hs
theorem ins_spn {L : List Int} {n : Int} (h : Srt (-1) L) (hn : 0 ≤ n ∧ n ≤ 4611686018427387903) (hm : n ∉ L) : ins (spn L) n = spn (dins n L) := by
  have g := spn_gd h
  have hi : ¬ Inn (spn L) n := fun q => hm ((spn_inn h n).1 q)
  have hs := dins_srt h (by omega) hn.2 hm
  refine gd_ext (ins_gd g (by omega) hn.2 hi) (spn_gd hs) (fun y => ?_)
  rw [ins_inn g hi y, spn_inn h y, spn_inn hs y, dins_mem]
/-- Both do the same. -/
theorem add_same {L : List Int} {f n : Int} (h : Srt (-1) L) : addS (spn L) f n = ((docAdd L f n).1, spn (docAdd L f n).2.1, (docAdd L f n).2.2) ∧ Srt (-1) (docAdd L f n).2.1 ∧ (docAdd L f n).2.1.length ≤ L.length + 1 := by
  have g := spn_gd h
  rw [addS_eq g]
  unfold docAdd
  by_cases hm : (0 ≤ n ∧ n ≤ 4611686018427387903) ∧ f ≤ n ∧ n ∉ L
  · have hmay : may (spn L) f n = true := (may_iff g).2 ⟨hm.1, hm.2.1, fun q => hm.2.2 ((spn_inn h n).1 q)⟩
    have hs := dins_srt h (by omega) hm.1.2 hm.2.2
    rw [if_pos hm, if_pos hmay, ins_spn h hm.1 hm.2.2]
    by_cases h32 : 32 < (spn (dins n L)).length
    · rw [if_pos h32, if_pos h32]
      obtain ⟨s, r, hsr⟩ : ∃ s r, spn (dins n L) = s :: r := by
        rcases hq : spn (dins n L) with _ | ⟨s, r⟩
        · rw [hq] at h32; simp at h32
        · exact ⟨s, r, rfl⟩
      have hd := spn_drop hs hsr
      rw [hsr]
      refine ⟨?_, srt_drop _ hs, ?_⟩
      · show (true, r, s.2 + 1) = (true, spn ((dins n L).drop (s.2 - s.1 + 1).toNat), s.2 + 1)
        rw [hd]
      · have := dins_len n L
        simp only [List.length_drop]
        omega
    · rw [if_neg h32, if_neg h32]
      exact ⟨rfl, hs, by have := dins_len n L; simp only; omega⟩
  · have hmay : ¬ may (spn L) f n = true := fun q => by
      have := (may_iff g).1 q
      exact hm ⟨this.1, this.2.1, fun z => this.2.2 ((spn_inn h n).2 z)⟩
    rw [if_neg hm, if_neg hmay]
    exact ⟨rfl, h, Nat.le_succ _⟩
theorem has_same {L : List Int} {n : Int} (h : Srt (-1) L) : hs (spn L) n = decide (n ∈ L) := by
  have e := hs_inn (x := n) (spn_gd h)
  rw [spn_inn h] at e
  by_cases hm : n ∈ L
  · rw [e.2 hm, decide_eq_true hm]
  · rw [decide_eq_false hm]
    exact Bool.eq_false_iff.2 (fun q => hm (e.1 q))
end Go.Proofs.Ytpihkmpcnkhnfaa.Sp
