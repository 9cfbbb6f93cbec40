/- The law's told; a nil set; awake. -/
import Derived.Test.YtpihkmpcnkhnfaaSp7
namespace Go.Proofs.Ytpihkmpcnkhnfaa.Sp
open Go Go.RowKit Go.Lib Go.Proofs.YtpihkmpcnkhnfaaW.PrintWords
open Go.Proofs.Ytpihkmpcnkhnfaa.Onl (Only)
set_option linter.unusedVariables false
set_option linter.unusedSimpArgs false

set_option maxHeartbeats 4000000 in
set_option maxRecDepth 100000 in
theorem told_calls {W : World} {A A' : Option Addr} {c c' : Nat} {l l' : List Spn} (h : Row W A c l) (h' : Row W A' c' l') (hl : l.length ≤ 1000) :
    Calls Try.prog 11 #[.slice A l.length c, .slice A' l'.length c'] W fun e w' => e = .returned (.bool (decide (l = l'))) ∧ ∃ q, w' = W.drewN q := by
  obtain ⟨n, hn⟩ : ∃ n, l.length = n := ⟨_, rfl⟩
  obtain ⟨n', hn'⟩ : ∃ n, l'.length = n := ⟨_, rfl⟩
  have HN := Aside0.mk hn
  have HN' := Aside0.mk hn'
  have H := Aside0.mk h
  have H' := Aside0.mk h'
  rw [hn] at hl ⊢
  rw [hn']
  clear h h' hn hn'
  by_cases hne : n = n'
  · subst hne
    obtain ⟨r, hr⟩ : ∃ r, decide (l = l') = r := ⟨_, rfl⟩
    have HR := Aside0.mk hr
    rw [hr]
    clear hr
    go_enter Try.func11, Try.ntmps11
    go_wp2
    go_loopg [5] n (fun gg v5 wr => ∃ (k q : Nat), v5 = .int .i64 (k : Int) ∧ k ≤ n ∧ n - k ≤ gg ∧ wr = W.drewN q ∧ Aside0 (l.take k = l'.take k))
    case atStart => exact ⟨0, 0, rfl, by omega, by omega, rfl, ⟨rfl⟩⟩
    case round =>
      obtain ⟨k, q, rfl, hk, hg, rfl, EQ⟩ := hrel
      by_cases hlt : k < n
      · have hk1 : k < l.length := by have := HN.out; omega
        have hk2 : k < l'.length := by have := HN'.out; omega
        obtain ⟨b, off, hA, x1, x2⟩ := H.out.get k hk1
        obtain ⟨b', off', hA', y1, y2⟩ := H'.out.get k hk2
        obtain ⟨s1, s2, hs⟩ : ∃ s1 s2, l[k] = (s1, s2) := ⟨_, _, rfl⟩
        obtain ⟨t1, t2, ht⟩ : ∃ t1 t2, l'[k] = (t1, t2) := ⟨_, _, rfl⟩
        rw [hs] at x1 x2
        rw [ht] at y1 y2
        have hs' : l[k]? = some (s1, s2) := by rw [List.getElem?_eq_getElem hk1, hs]
        have ht' : l'[k]? = some (t1, t2) := by rw [List.getElem?_eq_getElem hk2, ht]
        have HS := Aside0.mk (And.intro hs' ht')
        have HK := Aside0.mk (And.intro hk1 hk2)
        clear hs ht hs' ht' hk1 hk2
        subst hA hA'
        by_cases e1 : s1 = t1
        · subst e1
          by_cases e2 : s2 = t2
          · subst e2
            go_wp2
            go_quiet (fail)
            go_wp2
            go_roundg (n - (k + 1))
            case measure => omega
            case rel => exact ⟨k + 1, q + nq, by simp, by omega, by omega, by rw [← World.drewN_drewN], ⟨by rw [List.take_add_one, List.take_add_one, EQ.out, HS.out.1, HS.out.2]⟩⟩
          · have q2 : (s2 != t2) = true := by simp [e2]
            have hrr : r = false := by
              rw [← HR.out]
              refine decide_eq_false (fun e => e2 ?_)
              have h1 := HS.out.1
              rw [e, HS.out.2] at h1
              simp at h1; exact h1.symm
            subst hrr
            go_wp2
            go_quiet (fail)
            go_wp2
            go_ret
            exact ⟨rfl, q + nq, by rw [← World.drewN_drewN]⟩
        · have q1 : (s1 != t1) = true := by simp [e1]
          have hrr : r = false := by
            rw [← HR.out]
            refine decide_eq_false (fun e => e1 ?_)
            have h1 := HS.out.1
            rw [e, HS.out.2] at h1
            simp at h1; exact h1.1.symm
          subst hrr
          go_wp2
          go_quiet (fail)
          go_wp2
          go_ret
          exact ⟨rfl, q + nq, by rw [← World.drewN_drewN]⟩
      · obtain rfl : k = n := by omega
        have hrr : r = true := by
          rw [← HR.out]
          have h1 := EQ.out
          rw [List.take_of_length_le (by have := HN.out; omega), List.take_of_length_le (by have := HN'.out; omega)] at h1
          exact decide_eq_true h1
        subst hrr
        go_wp2
        go_ret
        exact ⟨rfl, q, rfl⟩
  · have hd : decide (l = l') = false := decide_eq_false (fun e => hne (by rw [← HN.out, ← HN'.out, e]))
    rw [hd]
    have q1 : ((n : Int) != (n' : Int)) = true := by simp; omega
    go_enter Try.func11, Try.ntmps11
    go_wp2
    go_ret
    exact ⟨rfl, 0, rfl⟩
end Go.Proofs.Ytpihkmpcnkhnfaa.Sp
