/- Plain: the state of the messages' walk: what is held, where it stands, which message is next. -/
import Derived.Test.YtbcleckapamicaaOrd0
namespace Go.Proofs.Ytbcleckapamicaa.Ord
open Go Go.RowKit Go.Proofs.YtbcleckapamicaaW.PrintWords
open Go.Proofs.Ytbcleckapamicaa.Stm (Bytes bytes_rd front front_none front_some mlen nextR cut putE putF fits FB)
open Go.Proofs.Ytbcleckapamicaa.Msg (msg msg_len)
set_option linter.unusedVariables false
set_option linter.unusedSimpArgs false

theorem next_none {F : Stm.Fn} {t : Int} (h : (nextR F t).2 ≠ 0) : (nextR F t).1 = [] := by
  unfold nextR at h ⊢
  by_cases h4 : (front F t 4).length < 4
  · rw [if_pos h4]
  rw [if_neg h4] at h ⊢
  by_cases h5 : mlen (front F t 4) > 2004
  · rw [if_pos h5]
  rw [if_neg h5] at h ⊢
  by_cases h6 : (front F t (mlen (front F t 4)).toNat).length < (mlen (front F t 4)).toNat
  · rw [if_pos h6]
  rw [if_neg h6] at h
  exact absurd rfl h
theorem agree_FB {F : Stm.Fn} {t : Nat} {all : List Int} (hA : agree F t all) (hB : Bytes all) : FB F := by
  intro x c h
  obtain ⟨h1, h2, h3⟩ := hA x c h
  have := bytes_rd hB x.toNat (by omega)
  rw [show ((x.toNat : Nat) : Int) = x by omega] at this
  rw [h3]
  omega
theorem msg_bytes {k : Nat} {b : List Int} (hk : k ≤ 255) (hb : b.length ≤ 100) (hB : Bytes b) : Bytes (msg k b) := by
  intro x hx
  simp only [msg, List.mem_append, List.mem_cons, List.not_mem_nil, or_false] at hx
  rcases hx with (rfl | rfl | rfl | rfl) | hx
  · omega
  · omega
  · omega
  · omega
  · exact hB x hx
theorem msgs_bytes : ∀ (l : List (List Int)) (k : Nat), k + l.length ≤ 255 → (∀ i, i < l.length → (l.getD i []).length ≤ 100) → (∀ b ∈ l, Bytes b) → Bytes (msgs k l).flatten := by
  intro l
  induction l with
  | nil => intro k _ _ _ x hx; simp [msgs] at hx
  | cons b l ih =>
    intro k hk hs hB x hx
    simp only [msgs, List.flatten_cons, List.mem_append] at hx
    rcases hx with hx | hx
    · have h0 := hs 0 (by simp)
      simp at h0
      exact msg_bytes (by omega) h0 (hB b (by simp)) x hx
    · refine ih (k + 1) (by simp at hk; omega) (fun i hi => ?_) (fun c hc => hB c (by simp [hc])) x hx
      have := hs (i + 1) (by simp; omega)
      simpa using this

/-- What stays: the messages, their bodies, all their bytes. -/
structure Msgs (l0 ms : List (List Int)) (fl : List Int) : Prop where
  hms : msgs 0 l0 = ms
  hfl : ms.flatten = fl
  sz : ∀ i, i < l0.length → (l0.getD i []).length ≤ 100
  ln : l0.length ≤ 8
  fb : fl.length ≤ 832
  by_ : Bytes fl
/-- What is held, where it stands, which message is next, up to where all is there. -/
structure Sd (ms : List (List Int)) (fl : List Int) (F : Stm.Fn) (t k : Nat) (h : Int) : Prop where
  ag : agree F t fl
  at_ : t = off ms k
  le : k ≤ ms.length
  th : there F t h
theorem Sd.start (ms : List (List Int)) (fl : List Int) : Sd ms fl (fun _ => none) 0 0 0 :=
  ⟨(fun x c h => by cases h), rfl, Nat.zero_le _, fun x h1 h2 => by omega⟩
theorem Msgs.at_ {l0 ms : List (List Int)} {fl : List Int} (hM : Msgs l0 ms fl) {k : Nat} (hk : k < ms.length) : ∃ b : List Int, b.length ≤ 100 ∧ ms[k]? = some (msg k b) := by
  have hl : ms.length = l0.length := by rw [← hM.hms, msgs_length]
  have hk' : k < l0.length := by omega
  refine ⟨l0[k], ?_, ?_⟩
  · have := hM.sz k hk'
    simpa [List.getD_eq_getElem?_getD, List.getElem?_eq_getElem hk'] using this
  · have h := msgs_get l0 0 k hk'
    rw [hM.hms, Nat.zero_add] at h
    exact h
theorem Sd.next {l0 ms : List (List Int)} {fl : List Int} (hM : Msgs l0 ms fl) {F : Stm.Fn} {t k : Nat} {h : Int} (hS : Sd ms fl F t k h) (h0 : (nextR F t).2 = 0) :
    k < ms.length ∧ ms.getD k [] = (nextR F t).1 ∧ (nextR F t).1.length ≤ 104 ∧ Sd ms fl (cut F t (nextR F t).1.length) (t + (nextR F t).1.length) (k + 1) h := by
  have hlt : k < ms.length := by
    rcases Nat.lt_or_ge k ms.length with q | q
    · exact q
    · have e : k = ms.length := Nat.le_antisymm hS.le q
      have := next_end hS.ag (by rw [hS.at_, e, off_all, hM.hfl]; exact Nat.le_refl _)
      rw [h0] at this
      exact absurd this (by decide)
  obtain ⟨b, hb, hg⟩ := hM.at_ hlt
  obtain ⟨r, hr⟩ := drop_off ms k _ hg
  rw [hM.hfl, ← hS.at_] at hr
  have e := next_is hS.ag hb hr h0
  refine ⟨hlt, by rw [e, List.getD_eq_getElem?_getD, hg]; rfl, by rw [e, msg_len]; omega, agree_cut hS.ag _, ?_, hlt, there_cut hS.th _⟩
  rw [off_succ ms k _ hg, ← e, hS.at_]
theorem Sd.done {l0 ms : List (List Int)} {fl : List Int} (hM : Msgs l0 ms fl) {F : Stm.Fn} {t k : Nat} (hS : Sd ms fl F t k fl.length) (h0 : (nextR F t).2 ≠ 0) : k = ms.length ∧ t = fl.length := by
  have e : k = ms.length := by
    rcases Nat.lt_or_ge k ms.length with q | q
    · obtain ⟨b, hb, hg⟩ := hM.at_ q
      obtain ⟨r, hr⟩ := drop_off ms k _ hg
      rw [hM.hfl, ← hS.at_] at hr
      exact absurd (next_full hS.ag hb hr hS.th) h0
    · exact Nat.le_antisymm hS.le q
  exact ⟨e, by rw [hS.at_, e, off_all, hM.hfl]⟩
theorem Sd.put {l0 ms : List (List Int)} {fl : List Int} (hM : Msgs l0 ms fl) {F : Stm.Fn} {t k : Nat} {h : Int} (hS : Sd ms fl F t k h) {p q : Nat} (hq : q ≤ fl.length) (hp : p ≤ q) (h' : Int) (hh : h' ≤ 0 ∨ ((p : Int) = h ∧ h' = q)) :
    putE F t p (piece fl p q) = 0 ∧ Sd ms fl (putF F t p (piece fl p q)) t k h' := by
  have hL : fl.length ≤ 1000 := by have := hM.fb; omega
  refine ⟨put_ok hS.ag hL hq hp, agree_put hS.ag hL hq hp, hS.at_, hS.le, ?_⟩
  rcases hh with hh | ⟨e1, e2⟩
  · intro x h1 h2
    omega
  · subst e2
    exact there_more hS.ag hL hq hp (by rw [e1]; exact hS.th)
theorem Sd.off_le {l0 ms : List (List Int)} {fl : List Int} (hM : Msgs l0 ms fl) {F : Stm.Fn} {t k : Nat} {h : Int} (hS : Sd ms fl F t k h) : t ≤ 832 := by
  have h1 : t ≤ fl.length := by
    rw [hS.at_, ← hM.hfl]
    unfold off
    conv => rhs; rw [← List.take_append_drop k ms, List.flatten_append, List.length_append]
    exact Nat.le_add_right _ _
  have := hM.fb
  omega
theorem piece_bytes {fl : List Int} (h : Bytes fl) (p q : Nat) : Bytes (piece fl p q) := fun x hx => h x (List.mem_of_mem_take (List.mem_of_mem_drop hx))
end Go.Proofs.Ytbcleckapamicaa.Ord
