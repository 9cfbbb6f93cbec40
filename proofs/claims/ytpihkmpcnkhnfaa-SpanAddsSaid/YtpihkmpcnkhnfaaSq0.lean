/- Spans, plainly: what a set of spans holds; adding keeps it good; two good ones that hold the same are the same. -/
import Derived.Test.YtpihkmpcnkhnfaaSp9
namespace Go.Proofs.Ytpihkmpcnkhnfaa.Sp
set_option linter.unusedVariables false
set_option linter.unusedSimpArgs false

/-- Spans behind a bound, apart from one another. -/
def Gd : Int → List Spn → Prop
  | _, [] => True
  | lo, s :: l => lo < s.1 ∧ s.1 ≤ s.2 ∧ s.2 ≤ 4611686018427387903 ∧ Gd (s.2 + 1) l
/-- A number is in one of them. -/
def Inn (l : List Spn) (x : Int) : Prop := ∃ s ∈ l, s.1 ≤ x ∧ x ≤ s.2
theorem inn_nil (x : Int) : Inn [] x ↔ False := by simp [Inn]
theorem inn_cons (s : Spn) (l : List Spn) (x : Int) : Inn (s :: l) x ↔ (s.1 ≤ x ∧ x ≤ s.2) ∨ Inn l x := by simp [Inn]
theorem gd_low : ∀ {l : List Spn} {lo x : Int}, Gd lo l → Inn l x → lo < x
  | [], _, _, _, h => absurd h (by simp [Inn])
  | s :: l, lo, x, ⟨h1, h2, h3, h4⟩, h => by
    rcases (inn_cons s l x).1 h with h | h
    · omega
    · have := gd_low h4 h; omega
theorem gd_mono {l : List Spn} {lo lo' : Int} (h : Gd lo l) (hl : lo' ≤ lo) : Gd lo' l := by
  cases l with
  | nil => trivial
  | cons s l => exact ⟨by have := h.1; omega, h.2⟩
theorem gd_mem : ∀ {l : List Spn} {lo : Int}, Gd lo l → ∀ s ∈ l, lo < s.1 ∧ s.1 ≤ s.2 ∧ s.2 ≤ 4611686018427387903
  | [], _, _, s, h => by cases h
  | t :: l, lo, ⟨h1, h2, h3, h4⟩, s, h => by
    rcases List.mem_cons.1 h with rfl | h
    · exact ⟨h1, h2, h3⟩
    · obtain ⟨a, b, c⟩ := gd_mem h4 s h; exact ⟨by omega, b, c⟩
theorem gd_asc : ∀ {l : List Spn} {lo : Int}, Gd lo l → Asc l
  | [], _, _ => List.Pairwise.nil
  | s :: l, lo, ⟨h1, h2, h3, h4⟩ => List.Pairwise.cons (fun t ht => by have := gd_mem h4 t ht; omega) (gd_asc h4)
theorem gd_bd {l : List Spn} (h : Gd (-1) l) : Bd l := fun s hs => by have := gd_mem h s hs; omega

/-- A number is put in. -/
def ins : List Spn → Int → List Spn
  | [], x => [(x, x)]
  | s :: l, x =>
    if x ≤ s.2 then (if s.1 = x + 1 then (x, s.2) :: l else (x, x) :: s :: l)
    else if s.2 = x - 1 then (match l with
      | [] => [(s.1, x)]
      | t :: l' => if t.1 = x + 1 then (s.1, t.2) :: l' else (s.1, x) :: t :: l')
    else s :: ins l x

theorem ins_cons (s : Spn) (l : List Spn) (x : Int) : ins (s :: l) x = if x ≤ s.2 then (if s.1 = x + 1 then (x, s.2) :: l else (x, x) :: s :: l)
    else if s.2 = x - 1 then (match l with
      | [] => [(s.1, x)]
      | t :: l' => if t.1 = x + 1 then (s.1, t.2) :: l' else (s.1, x) :: t :: l')
    else s :: ins l x := by
  cases l <;> simp only [ins]
theorem pl_cons_le {s : Spn} {l : List Spn} {x : Int} (h : x ≤ s.2) : pl (s :: l) x = 0 := by
  unfold pl
  rw [List.findIdx_cons, decide_eq_true h]; rfl
theorem pl_cons_gt {s : Spn} {l : List Spn} {x : Int} (h : ¬ x ≤ s.2) : pl (s :: l) x = pl l x + 1 := by
  unfold pl
  rw [List.findIdx_cons, decide_eq_false h]; rfl
theorem pl_zero {l : List Spn} {lo x : Int} (h : Gd lo l) (hx : x ≤ lo + 1) : pl l x = 0 := by
  cases l with
  | nil => rfl
  | cons s l => exact pl_cons_le (by have := h.1; have := h.2.1; omega)

theorem put_ins : ∀ {l : List Spn} {lo x : Int}, Gd lo l → put l x = ins l x
  | [], _, x, _ => by
    have hp : pl [] x = 0 := rfl
    have hpB : pB [] x = false := by unfold pB; rw [hp]; rfl
    have hqB : qB [] x = false := by unfold qB; rw [hp]; rfl
    unfold put frm too own1 own2
    rw [hpB, hqB, hp]
    simp [ins]
  | s :: l, lo, x, ⟨h1, h2, h3, h4⟩ => by
    by_cases hx : x ≤ s.2
    · have hp : pl (s :: l) x = 0 := pl_cons_le hx
      have hpB : pB (s :: l) x = false := by unfold pB; rw [hp]; rfl
      have hqB : qB (s :: l) x = decide (s.1 = x + 1) := by unfold qB; rw [hp]; rfl
      unfold put frm too own1 own2
      rw [hpB, hqB, hp]
      by_cases he : s.1 = x + 1
      · simp [ins, hx, he]
      · simp [ins, hx, he]
    · have hp : pl (s :: l) x = pl l x + 1 := pl_cons_gt hx
      by_cases hs : s.2 = x - 1
      · have h0 : pl l x = 0 := pl_zero h4 (by omega)
        have hpB : pB (s :: l) x = true := by unfold pB; rw [hp, h0]; simp [hs]
        have hqB : qB (s :: l) x = (match l[0]? with | some s => decide (s.1 = x + 1) | none => false) := by unfold qB; rw [hp, h0]; rfl
        unfold put frm too own1 own2
        rw [hpB, hqB, hp, h0]
        have hxx : ¬ x ≤ x - 1 := by omega
        cases l with
        | nil => simp [ins, hs, hxx]
        | cons t l' =>
          by_cases he : t.1 = x + 1
          · simp [ins, hs, he, hxx]
          · simp [ins, hs, he, hxx]
      · have ih := put_ins (x := x) h4
        have hqB : qB (s :: l) x = qB l x := by unfold qB; rw [hp]; rfl
        have hpB : pB (s :: l) x = pB l x := by
          unfold pB; rw [hp]
          rcases h0 : pl l x with _ | k
          · simp [hs]
          · rfl
        have h0 : pB l x = true → 0 < pl l x := by
          intro h; unfold pB at h; rw [Bool.and_eq_true, decide_eq_true_eq] at h; exact h.1
        have hf : frm (s :: l) x = frm l x + 1 := by
          unfold frm; rw [hpB, hp]; split
          · rename_i h; have := h0 h; omega
          · rfl
        have ht : too (s :: l) x = too l x + 1 := by
          unfold too; rw [hqB, hp]; split <;> rfl
        have ho1 : own1 (s :: l) x = own1 l x := by
          unfold own1; rw [hpB, hp]; split
          · rename_i h; have := h0 h
            obtain ⟨k, hk⟩ : ∃ k, pl l x = k + 1 := ⟨pl l x - 1, by omega⟩
            rw [hk]; rfl
          · rfl
        have ho2 : own2 (s :: l) x = own2 l x := by
          unfold own2; rw [hqB, hp]; rfl
        have e : ins (s :: l) x = s :: ins l x := by
          rw [ins_cons, if_neg hx, if_neg hs]
        rw [e, ← ih]
        unfold put
        rw [hf, ht, ho1, ho2]; rfl

theorem ins_gd : ∀ {l : List Spn} {lo x : Int}, Gd lo l → lo < x → x ≤ 4611686018427387903 → ¬ Inn l x → Gd lo (ins l x)
  | [], lo, x, _, h, hb, _ => ⟨h, Int.le_refl _, hb, trivial⟩
  | s :: l, lo, x, ⟨h1, h2, h3, h4⟩, h, hb, hn => by
    have hn1 : ¬ (s.1 ≤ x ∧ x ≤ s.2) := fun q => hn ((inn_cons _ _ _).2 (.inl q))
    have hn2 : ¬ Inn l x := fun q => hn ((inn_cons _ _ _).2 (.inr q))
    rw [ins_cons]
    split
    · split
      · exact ⟨h, by simp only; omega, h3, h4⟩
      · exact ⟨h, Int.le_refl _, hb, by show x + 1 < s.1; omega, h2, h3, h4⟩
    · split
      · cases l with
        | nil => exact ⟨h1, by simp only; omega, hb, trivial⟩
        | cons t l' =>
          have ht := h4.1
          simp only
          split
          · exact ⟨h1, by have := h4.2.1; simp only; omega, h4.2.2.1, h4.2.2.2⟩
          · refine ⟨h1, by simp only; omega, hb, ?_⟩
            have hn3 : ¬ (t.1 ≤ x ∧ x ≤ t.2) := fun q => hn2 ((inn_cons _ _ _).2 (.inl q))
            have := h4.2.1
            exact ⟨by simp only; omega, h4.2⟩
      · exact ⟨h1, h2, h3, ins_gd h4 (by omega) hb hn2⟩
theorem ins_inn : ∀ {l : List Spn} {lo x : Int}, Gd lo l → ¬ Inn l x → ∀ y, Inn (ins l x) y ↔ Inn l y ∨ y = x
  | [], lo, x, _, _, y => by simp [ins, Inn]; omega
  | s :: l, lo, x, ⟨h1, h2, h3, h4⟩, hn, y => by
    have hn1 : ¬ (s.1 ≤ x ∧ x ≤ s.2) := fun q => hn ((inn_cons _ _ _).2 (.inl q))
    have hn2 : ¬ Inn l x := fun q => hn ((inn_cons _ _ _).2 (.inr q))
    rw [ins_cons]
    split
    · split
      · rw [inn_cons, inn_cons]; simp only; constructor
        · rintro (q | q)
          · by_cases e : y = x
            · exact .inr e
            · exact .inl (.inl (by omega))
          · exact .inl (.inr q)
        · rintro ((q | q) | q)
          · exact .inl (by omega)
          · exact .inr q
          · exact .inl (by omega)
      · rw [inn_cons]; simp only; constructor
        · rintro (q | q)
          · exact .inr (by omega)
          · exact .inl q
        · rintro (q | q)
          · exact .inr q
          · exact .inl (by omega)
    · split
      · cases l with
        | nil =>
          simp only
          rw [inn_cons, inn_cons, inn_nil]; simp only; constructor
          · rintro (q | q)
            · by_cases e : y = x
              · exact .inr e
              · exact .inl (.inl (by omega))
            · exact q.elim
          · rintro ((q | q) | q)
            · exact .inl (by omega)
            · exact q.elim
            · exact .inl (by omega)
        | cons t l' =>
          have ht := h4.1
          have ht2 := h4.2.1
          have hn3 : ¬ (t.1 ≤ x ∧ x ≤ t.2) := fun q => hn2 ((inn_cons _ _ _).2 (.inl q))
          simp only
          split
          · rw [inn_cons, inn_cons, inn_cons]; simp only; constructor
            · rintro (q | q)
              · by_cases e : y = x
                · exact .inr e
                · by_cases e2 : y < x
                  · exact .inl (.inl (by omega))
                  · exact .inl (.inr (.inl (by omega)))
              · exact .inl (.inr (.inr q))
            · rintro ((q | q | q) | q)
              · exact .inl (by omega)
              · exact .inl (by omega)
              · exact .inr q
              · exact .inl (by omega)
          · rw [inn_cons, inn_cons s]; simp only; constructor
            · rintro (q | q)
              · by_cases e : y = x
                · exact .inr e
                · exact .inl (.inl (by omega))
              · exact .inl (.inr q)
            · rintro ((q | q) | q)
              · exact .inl (by omega)
              · exact .inr q
              · exact .inl (by omega)
      · rw [inn_cons, inn_cons, ins_inn h4 hn2 y, or_assoc]
theorem ins_len (l : List Spn) (x : Int) : (ins l x).length ≤ l.length + 1 := by
  induction l with
  | nil => simp [ins]
  | cons s l ih =>
    rw [ins_cons]
    split
    · split <;> simp
    · split
      · cases l with
        | nil => simp
        | cons t l' => simp only; split <;> simp
      · simp; exact ih
theorem hs_inn : ∀ {l : List Spn} {lo x : Int}, Gd lo l → (hs l x = true ↔ Inn l x)
  | [], _, x, _ => by unfold hs; simp [Inn]
  | s :: l, lo, x, ⟨h1, h2, h3, h4⟩ => by
    rw [inn_cons]
    by_cases hx : x ≤ s.2
    · have e : hs (s :: l) x = decide (s.1 ≤ x) := by unfold hs; rw [pl_cons_le hx]; rfl
      rw [e, decide_eq_true_eq]
      constructor
      · exact fun q => .inl ⟨q, hx⟩
      · rintro (q | q)
        · exact q.1
        · have := gd_low h4 q; omega
    · have e : hs (s :: l) x = hs l x := by unfold hs; rw [pl_cons_gt hx]; rfl
      rw [e, hs_inn h4]
      constructor
      · exact fun q => .inr q
      · rintro (q | q)
        · exact absurd q.2 hx
        · exact q
/-- Two good ones that hold the same are the same. -/
theorem gd_ext : ∀ {l l' : List Spn} {lo lo' : Int}, Gd lo l → Gd lo' l' → (∀ y, Inn l y ↔ Inn l' y) → l = l'
  | [], [], _, _, _, _, _ => rfl
  | [], s :: l', _, _, _, h', h => absurd ((h s.1).2 ((inn_cons _ _ _).2 (.inl ⟨Int.le_refl _, h'.2.1⟩))) (by simp [Inn])
  | s :: l, [], _, _, h', _, h => absurd ((h s.1).1 ((inn_cons _ _ _).2 (.inl ⟨Int.le_refl _, h'.2.1⟩))) (by simp [Inn])
  | s :: l, t :: l', lo, lo', ⟨h1, h2, h3, h4⟩, ⟨k1, k2, k3, k4⟩, h => by
    have low : ∀ y, Inn (s :: l) y → s.1 ≤ y := fun y q => by
      rcases (inn_cons _ _ _).1 q with q | q
      · exact q.1
      · have := gd_low h4 q; omega
    have low' : ∀ y, Inn (t :: l') y → t.1 ≤ y := fun y q => by
      rcases (inn_cons _ _ _).1 q with q | q
      · exact q.1
      · have := gd_low k4 q; omega
    have e1 : s.1 = t.1 := by
      have a := low' s.1 ((h _).1 ((inn_cons _ _ _).2 (.inl ⟨Int.le_refl _, h2⟩)))
      have b := low t.1 ((h _).2 ((inn_cons _ _ _).2 (.inl ⟨Int.le_refl _, k2⟩)))
      omega
    have e2 : s.2 = t.2 := by
      by_cases q1 : s.2 < t.2
      · have := (h (s.2 + 1)).2 ((inn_cons _ _ _).2 (.inl (by omega)))
        rcases (inn_cons _ _ _).1 this with q | q
        · omega
        · have := gd_low h4 q; omega
      · by_cases q2 : t.2 < s.2
        · have := (h (t.2 + 1)).1 ((inn_cons _ _ _).2 (.inl (by omega)))
          rcases (inn_cons _ _ _).1 this with q | q
          · omega
          · have := gd_low k4 q; omega
        · omega
    have e3 : l = l' := gd_ext h4 k4 (fun y => by
      constructor
      · intro q
        have q' := gd_low h4 q
        rcases (inn_cons _ _ _).1 ((h y).1 ((inn_cons _ _ _).2 (.inr q))) with z | z
        · omega
        · exact z
      · intro q
        have q' := gd_low k4 q
        rcases (inn_cons _ _ _).1 ((h y).2 ((inn_cons _ _ _).2 (.inr q))) with z | z
        · omega
        · exact z)
    rw [Prod.ext e1 e2, e3]

/-- Adding, said with ins. -/
theorem addS_eq {l : List Spn} {f x : Int} (h : Gd (-1) l) : addS l f x = if may l f x then (if 32 < (ins l x).length then (true, (ins l x).drop 1, ((ins l x).getD 0 (0, 0)).2 + 1) else (true, ins l x, f)) else (false, l, f) := by
  unfold addS; rw [put_ins h]
theorem may_iff {l : List Spn} {f x : Int} (h : Gd (-1) l) : may l f x = true ↔ (0 ≤ x ∧ x ≤ 4611686018427387903) ∧ f ≤ x ∧ ¬ Inn l x := by
  unfold may
  rw [Bool.and_eq_true, Bool.and_eq_true, decide_eq_true_eq, decide_eq_true_eq, Bool.not_eq_true', ← hs_inn h, and_assoc]
  simp
theorem gd_drop1 {l : List Spn} (h : Gd (-1) l) : Gd (-1) (l.drop 1) := by
  cases l with
  | nil => trivial
  | cons s l => exact gd_mono h.2.2.2 (by have := h.1; have := h.2.1; omega)
/-- Adding keeps a set good, and of at most 32 spans. -/
theorem addS_gd {l : List Spn} {f x : Int} (h : Gd (-1) l) : Gd (-1) (addS l f x).2.1 := by
  rw [addS_eq h]
  by_cases hm : may l f x = true
  · have hm' := (may_iff h).1 hm
    have g := ins_gd h (x := x) (by omega) hm'.1.2 hm'.2.2
    rw [if_pos hm]
    split
    · exact gd_drop1 g
    · exact g
  · rw [if_neg hm]; exact h
theorem addS_len {l : List Spn} {f x : Int} (h : Gd (-1) l) (hl : l.length ≤ 32) : (addS l f x).2.1.length ≤ 32 := by
  rw [addS_eq h]
  have := ins_len l x
  split
  · split
    · simp; omega
    · simp only; omega
  · exact hl
/-- Fewer than 32 numbers: none is struck. -/
theorem addS_few {l : List Spn} {x : Int} (h : Gd (-1) l) (hl : l.length < 32) : (addS l 0 x).2.2 = 0 ∧ (addS l 0 x).2.1.length ≤ l.length + 1 ∧ ∀ y, Inn (addS l 0 x).2.1 y ↔ Inn l y ∨ (y = x ∧ 0 ≤ x ∧ x ≤ 4611686018427387903) := by
  rw [addS_eq h]
  have hlen := ins_len l x
  by_cases hm : may l 0 x = true
  · have hm' := (may_iff h).1 hm
    rw [if_pos hm, if_neg (by omega)]
    refine ⟨rfl, hlen, fun y => ?_⟩
    rw [ins_inn h hm'.2.2 y]
    constructor
    · rintro (q | q)
      · exact .inl q
      · exact .inr ⟨q, hm'.1⟩
    · rintro (q | q)
      · exact .inl q
      · exact .inr q.1
  · rw [if_neg hm]
    refine ⟨rfl, by simp only; omega, fun y => ?_⟩
    constructor
    · exact fun q => .inl q
    · rintro (q | ⟨rfl, q⟩)
      · exact q
      · refine Classical.byContradiction fun hn => hm ((may_iff h).2 ⟨q, q.1, hn⟩)
end Go.Proofs.Ytpihkmpcnkhnfaa.Sp
