/- A part of the proof of the law FrameReads: Rf5, QFxx1, Opn, PrmFrameReads, QFdx4, Tk0, TkP, FdP, FdQ, PureFrameReads, Tab. -/
import Derived.Test.YtbcleckapamicaaDoorZFrd14
import Derived.Test.YtbcleckapamicaaDoorZFrd02
import Derived.Test.YtbcleckapamicaaDoorZFrd09
import Derived.Test.YtbcleckapamicaaDoorZFrd12
import Derived.Test.YtbcleckapamicaaDoorZFrd00
import Derived.Deep.Slices
import Derived.WideShapes
import Derived.ProofKit
import Derived.Test.YtbcleckapamicaaDoorZFrd10
import Derived.Test.YtbcleckapamicaaDoorZFrd13
import Derived.Test.YtbcleckapamicaaDoorRows
import Derived.LaidLaws
import Derived.Lib.LaidTab
import Derived.Stop.LaidErr
namespace Go.Proofs.YtbcleckapamicaaDoor.Rf
open Go Go.RowKit Go.Proofs.YtbcleckapamicaaDoorW.PrintWords Go.Proofs.YtbcleckapamicaaDoorW.PrintLast Go.Proofs.YtbcleckapamicaaDoorW.PrintMore
open Go.Proofs.YtbcleckapamicaaDoor.QFr (S58 S103 k58 k103 S102 k102 k102_mkM S62 k62)
open Go.Proofs.YtbcleckapamicaaDoor.FrP (cv fright cvF)
open Go.Proofs.YtbcleckapamicaaDoor.Fd (fread)
set_option linter.unusedVariables false
set_option linter.unusedSimpArgs false
set_option maxHeartbeats 2000000 in
set_option maxRecDepth 100000 in
theorem read_long (w0 w : World) (A : Option Addr) (c : Nat) (l : List Int) (hl : 1200 < l.length) : Calls Tryd.prog 55 #[.slice A l.length c] w (RefR w0 w l) := by
  have d0 : decide ((1200 : Int) < (l.length : Int)) = true := decide_eq_true (by omega)
  have d1 : decide (1200 < l.length) = true := decide_eq_true hl
  have FIN := Aside0.mk (show RefR w0 w l (.returned (.tuple #[.slice none 0 0, .int .i64 4])) w from ⟨_, [], 4, rfl, Kd.R_nil _ _ _ _ _, Below.refl _ _, by unfold fread; rw [if_pos hl]; rfl⟩)
  clear hl
  go_enter Tryd.func55, Tryd.ntmps55
  go_wp2
  go_ret2
  exact FIN.out
set_option maxHeartbeats 2000000 in
set_option maxRecDepth 100000 in
theorem read_nil (w0 w : World) (A : Option Addr) (c : Nat) : Calls Tryd.prog 55 #[.slice A 0 c] w (RefR w0 w []) := by
  have FIN := Aside0.mk (show ∀ w', Below w.heap.size w w' → RefR w0 w [] (.returned (.tuple #[.slice none 0 0, .int .i64 3])) w' from fun w' hb => ⟨_, [], 3, rfl, Kd.R_nil _ _ _ _ _, hb, by unfold fread; rw [if_neg (by simp), if_pos rfl]; rfl⟩)
  have C0 : (w.alloc (.cells #[.slice A 0 c, .bool true] 132)).cell? ⟨w.heap.size, 0, none⟩ = some (.slice A 0 c) := by rw [World.cell?_alloc_at _ _ _ _ rfl]; rfl
  have C1 : (w.alloc (.cells #[.slice A 0 c, .bool true] 132)).cell? ⟨w.heap.size, 1, none⟩ = some (.bool true) := by rw [World.cell?_alloc_at _ _ _ _ rfl]; rfl
  go_enter Tryd.func55, Tryd.ntmps55
  go_wp2
  go_loopg [5] 1 (fun gg v5 wr => wr = w.alloc (.cells #[.slice A 0 c, .bool true] 132))
  case atStart => rfl
  case round =>
    subst hrel
    go_wp2
    go_ret2
    exact FIN.out _ (below_alloc (Below.refl _ _) _)
theorem read_calls (w0 w : World) (hb0 : Below w0.heap.size w0 w) (A : Option Addr) (c : Nat) (l : List Int) (hC : Kd.C (Kd.int .u8) w0 A l.length l) (hc : l.length ≤ c) (hB : ∀ x ∈ l, 0 ≤ x ∧ x ≤ 255) :
    Calls Tryd.prog 55 #[.slice A l.length c] w (RefR w0 w l) := by
  by_cases h1 : 1200 < l.length
  · exact read_long w0 w A c l h1
  by_cases h2 : l = []
  · subst h2; exact read_nil w0 w A c
  exact read_short w0 w hb0 A c l hC hc (by omega) hB h2
theorem nil_like {α β : Type} (d' : Kd β) (e' : Nat) {d : Kd α} {e base : Nat} {ok : Nat → Prop} {W : World} {v : Value} {xs : List α} (h : d.R e W base ok v xs) : d'.R e' W base ok (.slice none 0 0) [] := Kd.R_nil _ _ _ _ _
def vc (l : List S103) : List S102 := l.map fun s => ⟨s.f0, s.f1⟩
def icvF (x : S58) : S62 := ⟨x.f0, x.f1, vc x.f2, x.f3, x.f4, x.f5⟩
theorem vc_cv (l : List S102) : vc (cv l) = l := by
  unfold vc cv
  rw [List.map_map]
  exact List.map_id' _
theorem icvF_cvF (x : S62) : icvF (cvF x) = x := by
  unfold icvF cvF
  simp only [vc_cv]
theorem cv_vc (l : List S103) : cv (vc l) = l := by
  unfold vc cv
  rw [List.map_map]
  exact List.map_id' _
theorem cvF_icvF (x : S58) : cvF (icvF x) = x := by
  unfold icvF cvF
  simp only [cv_vc]
def shibbolethref06_Read.f (l0 : List Int) : Option (List S62 × Int) := if ∀ x ∈ l0, 0 ≤ x ∧ x ≤ 255 then some ((fread l0).1.map icvF, (fread l0).2) else none
theorem shibbolethref06_Read.calls (w0 : World) (A0 : Option Addr) (c0 : Nat) (l0 : List Int) (r1 : List S62) (r2 : Int) (w : World) (hb0 : Below w0.heap.size w0 w) (hr0 : Kd.C (Kd.int .u8) w0 A0 l0.length l0) (hc0 : l0.length ≤ c0) (h : shibbolethref06_Read.f l0 = some (r1, r2)) :
    Calls Tryd.prog 55 #[.slice A0 l0.length c0] w fun e w' => ∃ v0_ : Value, e = .returned (.tuple #[v0_, .int .i64 r2]) ∧ Kd.R (kmx w0) 62 w' w.heap.size (fun _ => True) v0_ r1 ∧ Below w.heap.size w w' := by
  unfold shibbolethref06_Read.f at h
  split at h
  · rename_i hh
    injection h with h
    injection h with e1 e2
    refine (read_calls w0 w hb0 A0 c0 l0 hr0 hc0 hh).mono ?_
    rintro en w' ⟨v, L, e, rfl, hR, hb, he⟩
    rw [← he] at e1 e2
    simp only [List.map_map] at e1
    have e3 : L.map (icvF ∘ cvF) = L := by rw [show icvF ∘ cvF = id from funext icvF_cvF, List.map_id]
    rw [e3] at e1
    subst e1 e2
    exact ⟨v, rfl, hR, hb⟩
  · cases h
end Go.Proofs.YtbcleckapamicaaDoor.Rf
namespace Go.Proofs.YtbcleckapamicaaDoor.QFx
open Go.Proofs.YtbcleckapamicaaDoor.QFr (S58 S62 at_T58 at_T62 k102 k103 k58 k58_openM rd_T58 rd_T62 z58)
open Go.RowKit Go.Proofs.YtbcleckapamicaaDoorW.PrintWords Go.Proofs.YtbcleckapamicaaDoorW.PrintLast Go.Proofs.YtbcleckapamicaaDoorW.PrintMore
attribute [local go_sem] max2_int min2_int max_two min_two max_three min_three max_four min_four
set_option linter.unusedVariables false
set_option linter.unusedSimpArgs false
open Go.Proofs.YtbcleckapamicaaDoor.Gv (TB TB.below TB.alloc TB.drew TB.drewN)
open Go.Proofs.YtbcleckapamicaaDoor.QFr (shibbolethlaw06_awake.f shibbolethlaw06_awake.calls shibbolethlaw06_awake.mono)
open Go.Proofs.YtbcleckapamicaaDoor.Fd (frame_Read.f frame_Read.calls)
open Go.Proofs.YtbcleckapamicaaDoor.QFd (shibbolethlaw06_told.f shibbolethlaw06_told.calls shibbolethlaw06_told.mono)
open Go.Proofs.YtbcleckapamicaaDoor.Rf (shibbolethref06_Read.f shibbolethref06_Read.calls)
set_option hygiene false
local macro "pu200_" : term => `((if y101.length + l0.length < 140737488355328 then ((frame_Read.f (y101 ++ l0)).bind fun bt107 => ((shibbolethref06_Read.f l0).bind fun bt111 => (if bt107.2 = bt111.2 then (shibbolethlaw06_FrameReads.j0 k bt107.1 bt111.1 ((bt107.1.length : Int) != (bt111.1.length : Int))) else (shibbolethlaw06_FrameReads.j0 k bt107.1 bt111.1 true)))) else (none)))
local macro "pu201_" : term => `((by repeat (first | (with_reducible exact HR116_4.out) | (with_reducible refine Kd.C_alloc ?_ _) | (with_reducible refine Kd.C_drewN ?_ _) | (with_reducible refine Kd.C_drew ?_) | exact HR116_4.out)))
local macro "pu202_" : term => `((by repeat (first | (with_reducible exact HR116_2.out) | (with_reducible refine Kd.C_alloc ?_ _) | (with_reducible refine Kd.C_drewN ?_ _) | (with_reducible refine Kd.C_drew ?_) | exact HR116_2.out)))
local macro "pu203_" : term => `((by repeat (first | (with_reducible exact HR115_4.out) | (with_reducible refine Kd.C_alloc ?_ _) | (with_reducible refine Kd.C_drewN ?_ _) | (with_reducible refine Kd.C_drew ?_) | exact HR115_4.out)))
local macro "pu204_" : term => `((by repeat (first | (with_reducible exact HR115_2.out) | (with_reducible refine Kd.C_alloc ?_ _) | (with_reducible refine Kd.C_drewN ?_ _) | (with_reducible refine Kd.C_drew ?_) | exact HR115_2.out)))
local macro "pu205_" : term => `((by (try simp only [List.map_toArray, List.map_cons, List.map_nil]); first | done | rfl | (simp only [List.length_drop, List.length_take]; rfl)))
local macro "pu206_" : term => `((by first | (with_reducible assumption) | assumption))
local macro "pu207_" : term => `((by (with_reducible repeat (first | apply Kd.S_alloc | apply Kd.S_drewN | apply Kd.S_drew)); exact HO_3.out))
local macro "lu200_" : tactic => `(tactic| (exact ⟨by first | rfl | (simp [errW_none, errW_some] <;> rfl) | (simp [*, errW_none, errW_some] <;> rfl), by qc0_⟩))
local macro "lu201_" : tactic => `(tactic| (obtain ⟨ad115, A115_2, c115_2, A115_4, c115_4, e115, hx115_0, hx115_1, hx115_2, hx115_3, hx115_4, hx115_5, hl115_2, hi115_2, hl115_4, hi115_4⟩ := at_T58 (Kd.S_reads' HO_3.out).2.2 x7_2 p115 q115))
local macro "lu202_" : tactic => `(tactic| (obtain ⟨ce115, hce115, hMe115, hcc115⟩ := Kd.S_get HO_3.out z58 x7_2 p115 (by first | exact q115 | exact of_decide_eq_true (pu206_) | (have e_ := (Kd.S_reads' HO_3.out).1; omega))))
local macro "lu203_" : tactic => `(tactic| (obtain ⟨ad116, A116_2, c116_2, A116_4, c116_4, e116, hx116_0, hx116_1, hx116_2, hx116_3, hx116_4, hx116_5, hl116_2, hi116_2, hl116_4, hi116_4⟩ := at_T62 (Go.Proofs.YtbcleckapamicaaDoor.Rf.kmx_C HB.out (Kd.R_reads' HO_5.out).2.2) x7_2 p116 q116))
local macro "lu204_" : tactic => `(tactic| (refine start_ (n := 10) (S := fun w' => w'.cell? (ad115.add ((x7_2).toNat * 6)) = some (.int .i64 ((rd_T58 t107 x7_2).f0)) ∧ w'.cell? ⟨(ad115.add ((x7_2).toNat * 6)).block, (ad115.add ((x7_2).toNat * 6)).off + 1, none⟩ = some (.int .i64 ((rd_T58 t107 x7_2).f1)) ∧ w'.cell? ⟨(ad115.add ((x7_2).toNat * 6)).block, (ad115.add ((x7_2).toNat * 6)).off + 2, none⟩ = some (.slice A115_2 ((rd_T58 t107 x7_2).f2).length c115_2) ∧ w'.cell? ⟨(ad115.add ((x7_2).toNat * 6)).block, (ad115.add ((x7_2).toNat * 6)).off + 3, none⟩ = some (.int .i64 ((rd_T58 t107 x7_2).f3)) ∧ w'.cell? ⟨(ad115.add ((x7_2).toNat * 6)).block, (ad115.add ((x7_2).toNat * 6)).off + 4, none⟩ = some (.slice A115_4 ((rd_T58 t107 x7_2).f4).length c115_4) ∧ w'.cell? ⟨(ad115.add ((x7_2).toNat * 6)).block, (ad115.add ((x7_2).toNat * 6)).off + 5, none⟩ = some (.int .i64 ((rd_T58 t107 x7_2).f5)) ∧ w'.cell? (ad116.add ((x7_2).toNat * 6)) = some (.int .i64 ((rd_T62 t111 x7_2).f0)) ∧ w'.cell? ⟨(ad116.add ((x7_2).toNat * 6)).block, (ad116.add ((x7_2).toNat * 6)).off + 1, none⟩ = some (.int .i64 ((rd_T62 t111 x7_2).f1)) ∧ w'.cell? ⟨(ad116.add ((x7_2).toNat * 6)).block, (ad116.add ((x7_2).toNat * 6)).off + 2, none⟩ = some (.slice A116_2 ((rd_T62 t111 x7_2).f2).length c116_2) ∧ w'.cell? ⟨(ad116.add ((x7_2).toNat * 6)).block, (ad116.add ((x7_2).toNat * 6)).off + 3, none⟩ = some (.int .i64 ((rd_T62 t111 x7_2).f3)) ∧ w'.cell? ⟨(ad116.add ((x7_2).toNat * 6)).block, (ad116.add ((x7_2).toNat * 6)).off + 4, none⟩ = some (.slice A116_4 ((rd_T62 t111 x7_2).f4).length c116_4) ∧ w'.cell? ⟨(ad116.add ((x7_2).toNat * 6)).block, (ad116.add ((x7_2).toNat * 6)).off + 5, none⟩ = some (.int .i64 ((rd_T62 t111 x7_2).f5))) (ds := []) #[false, false, false, false, false, false, false, false, false, false] (by kernel_rfl) rfl rfl ⟨hx115_0, hx115_1, hx115_2, hx115_3, hx115_4, hx115_5, hx116_0, hx116_1, hx116_2, hx116_3, hx116_4, hx116_5⟩ (fun hHeld => ?_); refine with_tabW shibbolethlaw06_FrameReads.tab10 shibbolethlaw06_FrameReads.bits10 (fun HT_ HW_ => ?_)))
local macro "lu205_" : tactic => `(tactic| (refine pure_ (i := 0) (N := some 39) (v := ?_) (a' := ?_) #[true, false, false, false, false, false, false, false, false, false] rfl rfl (any_of HT_.out (by kernel_rfl)) (fun _ _ _ h => h) (Or.inl ⟨by rfl, ?_⟩) ?_ ?_))
local macro "lu206_" : tactic => `(tactic| (refine pure_ (i := 1) (N := some 40) (v := ?_) (a' := ?_) #[true, true, false, false, false, false, false, false, false, false] rfl rfl (any_of HT_.out (by kernel_rfl)) (fun _ _ _ h => h) (Or.inl ⟨by rfl, ?_⟩) ?_ ?_))
local macro "lu207_" : tactic => `(tactic| (refine pure_ (i := 2) (N := some 41) (v := ?_) (a' := ?_) #[true, true, true, false, false, false, false, false, false, false] rfl rfl (any_of HT_.out (by kernel_rfl)) (fun _ _ _ h => h) (Or.inl ⟨by rfl, ?_⟩) ?_ ?_))
local macro "lu208_" : tactic => `(tactic| (refine pure_ (i := 4) (N := some 43) (v := ?_) (a' := ?_) #[true, true, true, false, true, false, false, false, false, false] rfl rfl (any_of HT_.out (by kernel_rfl)) (fun _ _ _ h => h) (Or.inl ⟨by rfl, ?_⟩) ?_ ?_))
local macro "lu209_" : tactic => `(tactic| (refine pure_ (i := 5) (N := some 44) (v := ?_) (a' := ?_) #[true, true, true, false, true, true, false, false, false, false] rfl rfl (any_of HT_.out (by kernel_rfl)) (fun _ _ _ h => h) (Or.inl ⟨by rfl, ?_⟩) ?_ ?_))
local macro "lu2010_" : tactic => `(tactic| (refine pure_ (i := 6) (N := some 45) (v := ?_) (a' := ?_) #[true, true, true, false, true, true, true, false, false, false] rfl rfl (any_of HT_.out (by kernel_rfl)) (fun _ _ _ h => h) (Or.inl ⟨by rfl, ?_⟩) ?_ ?_))
local macro "lu2011_" : tactic => `(tactic| (refine take_ (i := 3) (N := some 42) (v := ?_) (a' := ?_) #[true, true, true, true, true, true, true, false, false, false] rfl rfl (take_ofW HT_.out HW_.out (by kernel_rfl)) (fun _ _ _ h => h) (Or.inl ⟨by rfl, ?_⟩) hHeld ?_ ?_))
local macro "lu2012_" : tactic => `(tactic| (rintro w' ⟨s0, s1, s2, s3, s4, s5, s6, s7, s8, s9, s10, s11⟩))
local macro "lu2013_" : tactic => `(tactic| (refine take_ (i := 7) (N := some 46) (v := ?_) (a' := ?_) #[true, true, true, true, true, true, true, true, false, false] rfl rfl (take_ofW HT_.out HW_.out (by kernel_rfl)) (fun _ _ _ h => h) (Or.inl ⟨by rfl, ?_⟩) hHeld ?_ ?_))
local macro "lu2014_" : tactic => `(tactic| (refine one_ (i := 8) (N := some 47) #[true, true, true, true, true, true, true, true, true, false] rfl rfl (one_of HT_.out (by kernel_rfl)) (by decide) (fun K hK => ?_)))
local macro "lu2015_" : tactic => `(tactic| (refine goes_ Tryd.func56 (by kernel_rfl) rfl #[.agg #[.int .i64 ((rd_T58 t107 x7_2).f0), .int .i64 ((rd_T58 t107 x7_2).f1), .slice A115_2 ((rd_T58 t107 x7_2).f2).length c115_2, .int .i64 ((rd_T58 t107 x7_2).f3), .slice A115_4 ((rd_T58 t107 x7_2).f4).length c115_4, .int .i64 ((rd_T58 t107 x7_2).f5)], .agg #[.int .i64 ((rd_T62 t111 x7_2).f0), .int .i64 ((rd_T62 t111 x7_2).f1), .slice A116_2 ((rd_T62 t111 x7_2).f2).length c116_2, .int .i64 ((rd_T62 t111 x7_2).f3), .slice A116_4 ((rd_T62 t111 x7_2).f4).length c116_4, .int .i64 ((rd_T62 t111 x7_2).f5)]] (by rfl) rfl rfl (pu205_) ?_))
local macro "lu2016_" : tactic => `(tactic| ((case side1 => repeat (first | exact (pu204_) | (with_reducible refine Kd.C_alloc ?_ _) | (with_reducible refine Kd.C_drewN ?_ _) | (with_reducible refine Kd.C_drew ?_)))))
local macro "lu2017_" : tactic => `(tactic| ((case side3 => repeat (first | exact (pu203_) | (with_reducible refine Kd.C_alloc ?_ _) | (with_reducible refine Kd.C_drewN ?_ _) | (with_reducible refine Kd.C_drew ?_)))))
local macro "lu2018_" : tactic => `(tactic| ((case side5 => repeat (first | exact (pu202_) | (with_reducible refine Kd.C_alloc ?_ _) | (with_reducible refine Kd.C_drewN ?_ _) | (with_reducible refine Kd.C_drew ?_)))))
local macro "lu2019_" : tactic => `(tactic| ((case side7 => repeat (first | exact (pu201_) | (with_reducible refine Kd.C_alloc ?_ _) | (with_reducible refine Kd.C_drewN ?_ _) | (with_reducible refine Kd.C_drew ?_)))))
local macro "lu2020_" : tactic => `(tactic| (refine pure_ (i := 9) (N := some 48) (v := ?_) (a' := ?_) #[true, true, true, true, true, true, true, true, true, true] rfl rfl (any_of HT_.out (by kernel_rfl)) (fun _ _ _ h => h) (Or.inl ⟨by rfl, ?_⟩) ?_ ?_))
set_option hygiene true
mutual
def shibbolethlaw06_FrameReads.j0 : Nat → List (S58) → List (S62) → Bool → Option (Bool)
 | 0, _, _, _ => none
 | k + 1, x3, x5, x32 => if x32 = true then (some false) else (shibbolethlaw06_FrameReads.l0 k x3 x5 0)
def shibbolethlaw06_FrameReads.l0 : Nat → List (S58) → List (S62) → Int → Option (Bool)
 | 0, _, _, _ => none
 | k + 1, x3, x5, x7 => if x7 < (x5.length : Int) then (if 0 ≤ x7 then (if x7 < (x3.length : Int) then ((shibbolethlaw06_told.f k ((rd_T58 x3 x7).f0) ((rd_T58 x3 x7).f1) ((rd_T58 x3 x7).f2) ((rd_T58 x3 x7).f3) ((rd_T58 x3 x7).f4) ((rd_T58 x3 x7).f5) ((rd_T62 x5 x7).f0) ((rd_T62 x5 x7).f1) ((rd_T62 x5 x7).f2) ((rd_T62 x5 x7).f3) ((rd_T62 x5 x7).f4) ((rd_T62 x5 x7).f5)).bind fun t117 => (if t117 = true then (shibbolethlaw06_FrameReads.l0 k x3 x5 (wrap64 (x7 + 1))) else (some false))) else (none)) else (none)) else ((shibbolethlaw06_awake.f k).bind fun t118 => (some t118))
end
def shibbolethlaw06_FrameReads.f (k : Nat) (l0 : List Int) : Option (Bool) := if (l0.length : Int) > 1300 then (some true) else ((some (([] : List Int) : List Int)).bind fun y101 => (pu200_))
theorem shibbolethlaw06_FrameReads.mono_l : ∀ k, (∀ y0 y1 y2, LeO (shibbolethlaw06_FrameReads.j0 k y0 y1 y2) (shibbolethlaw06_FrameReads.j0 (k + 1) y0 y1 y2)) ∧ (∀ y0 y1 y2, LeO (shibbolethlaw06_FrameReads.l0 k y0 y1 y2) (shibbolethlaw06_FrameReads.l0 (k + 1) y0 y1 y2))
 | 0 => ⟨fun _ _ _ r h => by simp [shibbolethlaw06_FrameReads.j0] at h, fun _ _ _ r h => by simp [shibbolethlaw06_FrameReads.l0] at h⟩
 | k + 1 => by
  obtain ⟨ih0, ih1⟩ := shibbolethlaw06_FrameReads.mono_l k
  refine ⟨?_, ?_⟩
  ·intro y0 y1 y2
   unfold shibbolethlaw06_FrameReads.j0
   repeat' first
   | (with_reducible exact ih0 _ _ _)
   | (with_reducible exact ih1 _ _ _)
   | (with_reducible exact shibbolethlaw06_awake.mono _)
   | (with_reducible exact shibbolethlaw06_told.mono _ _ _ _ _ _ _ _ _ _ _ _ _)
   | (with_reducible exact LeO.refl _)
   | (with_reducible exact LeO.none _)
   | (with_reducible refine LeO.ite ?_ ?_)
   | (with_reducible refine LeO.bind ?_ (fun _ => ?_))
   | exact ih0 _ _ _
   | exact ih1 _ _ _
   | exact shibbolethlaw06_awake.mono _
   | exact shibbolethlaw06_told.mono _ _ _ _ _ _ _ _ _ _ _ _ _
   | exact LeO.none _
   | refine LeO.ite ?_ ?_
   | refine LeO.bind ?_ (fun _ => ?_)
  ·intro y0 y1 y2
   unfold shibbolethlaw06_FrameReads.l0
   repeat' first
   | (with_reducible exact ih0 _ _ _)
   | (with_reducible exact ih1 _ _ _)
   | (with_reducible exact shibbolethlaw06_awake.mono _)
   | (with_reducible exact shibbolethlaw06_told.mono _ _ _ _ _ _ _ _ _ _ _ _ _)
   | (with_reducible exact LeO.refl _)
   | (with_reducible exact LeO.none _)
   | (with_reducible refine LeO.ite ?_ ?_)
   | (with_reducible refine LeO.bind ?_ (fun _ => ?_))
   | exact ih0 _ _ _
   | exact ih1 _ _ _
   | exact shibbolethlaw06_awake.mono _
   | exact shibbolethlaw06_told.mono _ _ _ _ _ _ _ _ _ _ _ _ _
   | exact LeO.none _
   | refine LeO.ite ?_ ?_
   | refine LeO.bind ?_ (fun _ => ?_)
theorem shibbolethlaw06_FrameReads.mono : ∀ a0 k, LeO (shibbolethlaw06_FrameReads.f k a0) (shibbolethlaw06_FrameReads.f (k + 1) a0) := by
 intro a0 k
 obtain ⟨ih0, ih1⟩ := shibbolethlaw06_FrameReads.mono_l k
 unfold shibbolethlaw06_FrameReads.f
 repeat' first
   | (with_reducible exact ih0 _ _ _)
   | (with_reducible exact ih1 _ _ _)
   | (with_reducible exact shibbolethlaw06_awake.mono _)
   | (with_reducible exact shibbolethlaw06_told.mono _ _ _ _ _ _ _ _ _ _ _ _ _)
   | (with_reducible exact LeO.refl _)
   | (with_reducible exact LeO.none _)
   | (with_reducible refine LeO.ite ?_ ?_)
   | (with_reducible refine LeO.bind ?_ (fun _ => ?_))
   | exact ih0 _ _ _
   | exact ih1 _ _ _
   | exact shibbolethlaw06_awake.mono _
   | exact shibbolethlaw06_told.mono _ _ _ _ _ _ _ _ _ _ _ _ _
   | exact LeO.none _
   | refine LeO.ite ?_ ?_
   | refine LeO.bind ?_ (fun _ => ?_)
def shibbolethlaw06_FrameReads.T10 : Bool × List (List Nat × List Nat) := (true, [([], []), ([], []), ([0, 1], [0, 1]), ([2], [2]), ([], []), ([], []), ([4, 5], [4, 5]), ([6], [6]), ([3, 7], [3, 7]), ([8], [8])])
def shibbolethlaw06_FrameReads.B10 : List Nat := [0, 0, 3, 7, 0, 0, 48, 112, 255, 511]
theorem shibbolethlaw06_FrameReads.tab10 : rtab .any (opsOf Tryd.f16 10) = shibbolethlaw06_FrameReads.T10 := by kernel_rfl
theorem shibbolethlaw06_FrameReads.bits10 : waitsOk shibbolethlaw06_FrameReads.T10.2 shibbolethlaw06_FrameReads.B10 = true := by kernel_rfl
set_option maxHeartbeats 8000000 in
set_option maxRecDepth 100000 in
theorem shibbolethlaw06_FrameReads.calls (k : Nat) (A0 : Option Addr) (c0 : Nat) (l0 : List Int) (r : Bool) (w : World) (hr0 : Kd.C (Kd.int .u8) w A0 l0.length l0) (hc0 : l0.length ≤ c0) (ht : TB w) (h : shibbolethlaw06_FrameReads.f k l0 = some r) :
  Calls Tryd.prog 16 #[.slice A0 l0.length c0] w fun e w' => e = .returned (.bool r) ∧ Below w.heap.size w w' := by
 have HT := Aside0.mk ht
 clear ht
 have hu58 := Tryd.underlying58
 have hu62 := Tryd.underlying62
 have HR0 := Aside0.mk hr0
 have HC0 := Aside0.mk hc0
 clear hr0 hc0
 have HB := Aside0.mk (Below.refl w.heap.size w)
 have H : (if (l0.length : Int) > 1300 then (some true) else ((some (([] : List Int) : List Int)).bind fun y101 => (pu200_))) = some r := h
 clear h
 by_cases c2 : (l0.length : Int) > 1300
 ·rw [if_pos c2] at H
  have c2b0 : decide (1300 < (l0.length : Int)) = true := decide_eq_true c2
  have c2b1 : decide (1300 < l0.length) = true := decide_eq_true (by omega)
  clear c2
  obtain rfl := Option.some.inj H
  go_enter Tryd.func16, Tryd.ntmps16
  go_wp2
  go_ret
  lu200_
 ·rw [if_neg c2] at H
  have c2b0 : decide (1300 < (l0.length : Int)) = false := decide_eq_false c2
  have c2b1 : decide (1300 < l0.length) = false := decide_eq_false (by omega)
  clear c2
  obtain ⟨y101, hy101⟩ : ∃ y_ : List Int, y_ = (([] : List Int)) := ⟨_, rfl⟩
  replace H : (pu200_) = some r := by first | (rw [hy101]; with_reducible exact H) | (have H2_ := (Option.bind_some _ _).symm.trans H; rw [hy101]; with_reducible exact H2_) | (have H2_ := (Option.bind_some _ _).symm.trans H; with_reducible exact H2_) | with_reducible exact H | (rw [hy101]; exact H) | exact H
  have Ny101 := Aside0.mk hy101
  clear hy101
  by_cases c3 : y101.length + l0.length < 140737488355328
  ·rw [if_pos c3] at H
   have LMc3 := Aside0.mk c3
   clear c3
   obtain ⟨y104, hy104⟩ : ∃ y_ : List Int, y_ = (y101 ++ l0) := ⟨_, rfl⟩
   replace H : ((frame_Read.f y104).bind fun bt107 => ((shibbolethref06_Read.f l0).bind fun bt111 => (if bt107.2 = bt111.2 then (shibbolethlaw06_FrameReads.j0 k bt107.1 bt111.1 ((bt107.1.length : Int) != (bt111.1.length : Int))) else (shibbolethlaw06_FrameReads.j0 k bt107.1 bt111.1 true)))) = some r := by first | (rw [hy104]; with_reducible exact H) | (have H2_ := (Option.bind_some _ _).symm.trans H; rw [hy104]; with_reducible exact H2_) | (have H2_ := (Option.bind_some _ _).symm.trans H; with_reducible exact H2_) | with_reducible exact H | (rw [hy104]; exact H) | exact H
   have Ny104 := Aside0.mk hy104
   clear hy104
   replace H := Option.bind_eq_some_iff.mp H
   obtain ⟨⟨t107, t108⟩, A40, H⟩ := H
   replace H : ((shibbolethref06_Read.f l0).bind fun bt111 => (if t108 = bt111.2 then (shibbolethlaw06_FrameReads.j0 k t107 bt111.1 ((t107.length : Int) != (bt111.1.length : Int))) else (shibbolethlaw06_FrameReads.j0 k t107 bt111.1 true))) = some r := H
   have A4 := Aside0.mk A40
   clear A40
   replace H := Option.bind_eq_some_iff.mp H
   obtain ⟨⟨t111, t112⟩, A50, H⟩ := H
   replace H : (if t108 = t112 then (shibbolethlaw06_FrameReads.j0 k t107 t111 ((t107.length : Int) != (t111.length : Int))) else (shibbolethlaw06_FrameReads.j0 k t107 t111 true)) = some r := H
   have A5 := Aside0.mk A50
   clear A50
   have HC6 := Aside0.mk H
   clear H
   go_enter Tryd.func16, Tryd.ntmps16
   go_upto_region 5 with (first | ((with_reducible refine gate_dst (N := 12) rfl ?_); (try (refine gate_guard (by rfl) ?_; dsimp only)); refine Kd.R_lit (Kd.int .u8) _ 5 ?hg (N := 12) ?hd (xs := ([] : List Int)) (inner := []) (ok := fun _ => True) (okp := fun _ => True) ?hr ?hp (fun _ hk => hk) trivial (Below.refl _ _) (Nat.le_refl _) (by simp) ?_; (case hd => rfl); (case hg => rfl); (case hr => first | (go_simp; done) | (go_simp; rfl)); (case hp => exact (Reps.none _ _)); intro v102 w7 ho8 hb hg_ hnew_; clear hg_ hnew_; (first | rw [← Ny101.out] at ho8 | (simp only [Int.reduceToNat] at ho8; rw [← Ny101.out] at ho8)); have n0_ := Aside0.mk (Kd.R_lower ho8 (below_size (by qc0_))); have n1_ := Aside0.mk (below_step (by qc0_) hb); clear HB; have HO103 := n0_; have HB := n1_; clear n0_ n1_; clear hb ho8) | ((with_reducible refine gate_builtin (b := .append) (xs := #[.tmp 12, .tmp 13]) rfl ?_); (try (refine gate_guard (by rfl) ?_; dsimp only)); at_builtin; refine Kd.R_append_rows (Kd.int .u8) (w0 := w) w.heap.size rfl (.tmp 12) (.tmp 13) 22 5 (.int .u8 0) 1 rfl Tryd.underlying22 info5 rfl (by decide) (by omega) v102 y101 l0 _ _ _ (fun _ => True) (fun _ => False) rfl rfl ?aO ?aR (fun _ _ h => h) (fun _ h => h.elim) ?aF ?aB ?aS ?aL ?_; (case aR => repeat (first | exact (Kd.C_below HR0.out HB.out) | exact HR0.out | (with_reducible refine Kd.C_alloc ?_ _) | (with_reducible refine Kd.C_drewN ?_ _) | (with_reducible refine Kd.C_drew ?_))); (case aB => exact (by qc0_)); (case aF => exact (fun _ _ => trivial)); (case aO => exact (by qR_; exact HO103.out)); (case aS => exact (below_size (by qc0_))); (case aL => have := LMc3.out; omega); intro v105 w9 ho hb hg hat; rw [← Ny104.out] at ho; have n0_ := Aside0.mk (hb); have n1_ := Aside0.mk (ho); clear HB; clear HO103; have HB := n0_; have HO106 := n1_; clear n0_ n1_; clear ho hb hg hat; obtain ⟨Ao10, co10, eo10⟩ := Kd.R_slice HO106.out; subst eo10) | ((with_reducible refine gate_callee (f := 54) rfl ?_); refine goesL_ (some 15) rfl rfl Tryd.func54 (by kernel_rfl) rfl #[.slice Ao10 y104.length co10] rfl (pu205_) ?_; (with_reducible refine (frame_Read.calls _ _ y104 t107 t108 _ ?side1 ?side2 A4.out).mono ?_); (case side1 => repeat (first | exact (Kd.R_reads' HO106.out).2.2 | (with_reducible refine Kd.C_alloc ?_ _) | (with_reducible refine Kd.C_drewN ?_ _) | (with_reducible refine Kd.C_drew ?_))); (case side2 => exact (Kd.R_reads' HO106.out).2.1); rintro e w11 ⟨v109, rfl, ho0, hb⟩; refine ⟨_, rfl, ?_⟩; have n0_ := Aside0.mk (Kd.R_below (by qR_; exact HO106.out) hb); have n1_ := Aside0.mk (Kd.S_lower (Kd.S_new' ho0 (Kd.R_lt (by qR_; exact HO106.out))) (below_size (by qc0_))); have n2_ := Aside0.mk (below_step (by qc0_) hb); clear HO106; clear HB; have HO106 := n0_; have HO110 := n1_; have HB := n2_; clear n0_ n1_ n2_; (try clear hb); (try clear hb2); (try clear hk); (try clear hi); (try clear ho0)) | ((with_reducible refine gate_callee (f := 55) rfl ?_); refine goesL_ (some 20) rfl rfl Tryd.func55 (by kernel_rfl) rfl #[.slice A0 l0.length c0] rfl (pu205_) ?_; (with_reducible refine (shibbolethref06_Read.calls w _ _ l0 t111 t112 _ ?sideB ?side1 ?side2 A5.out).mono ?_); (case sideB => qc0_); (case side1 => repeat (first | exact HR0.out | (with_reducible refine Kd.C_alloc ?_ _) | (with_reducible refine Kd.C_drewN ?_ _) | (with_reducible refine Kd.C_drew ?_))); (case side2 => exact HC0.out); rintro e w12 ⟨v113, rfl, ho0, hb⟩; refine ⟨_, rfl, ?_⟩; have n0_ := Aside0.mk (Kd.R_below (by qR_; exact HO106.out) hb); have n1_ := Aside0.mk (Kd.S_below (by (with_reducible repeat (first | apply Kd.S_alloc | apply Kd.S_drewN | apply Kd.S_drew)); exact HO110.out) hb); have n2_ := Aside0.mk (Kd.R_lower ho0 (below_size (by qc0_))); have n3_ := Aside0.mk (below_step (by qc0_) hb); clear HO106; clear HO110; clear HB; have HO106 := n0_; have HO110 := n1_; have HO114 := n2_; have HB := n3_; clear n0_ n1_ n2_ n3_; (try clear hb); (try clear hb2); (try clear hk); (try clear hi); (try clear ho0)))
   (try simp only [Act.put, List.setIfInBounds_toArray, List.set_cons_zero, List.set_cons_succ])
   go_cut [32] (fun v32 wc => ∃ (kq : Nat) (x32_5 : Bool), v32 = .bool x32_5 ∧ Aside0 (shibbolethlaw06_FrameReads.j0 kq t107 t111 x32_5 = some r) ∧ Aside0 (kq ≤ k) ∧ Aside0 (Kd.S k58 58 wc w.heap.size (fun _ => True) v109 t107) ∧ Aside0 (Kd.R (Go.Proofs.YtbcleckapamicaaDoor.Rf.kmx w) 62 wc w.heap.size (fun _ => True) v113 t111) ∧ Aside0 (Below w.heap.size w wc))
   case first =>
    have H := HC6.out
    clear HC6
    by_cases c13 : t108 = t112
    ·rw [if_pos c13] at H
     have c13b0 : (t108 == t112) = true := beq_iff_eq.mpr c13
     have c13b1 : (t108 != t112) = false := bne_eq_false_iff_eq.mpr c13
     clear c13
     (first | rw [c13b0] | (simp only [i64_w, i32_w]; rw [c13b0]) | skip)
     have H' := Aside0.mk H
     clear H
     obtain ⟨Ao14, co14, eo14⟩ := Kd.S_slice HO110.out
     subst eo14
     obtain ⟨Ao15, co15, eo15⟩ := Kd.R_slice HO114.out
     subst eo15
     go_wp2
     go_meet
     case rel => exact ⟨_, (((t107.length : Int) != (t111.length : Int))), (by first | rfl | (simp; done) | (simp [*]; done)), H', ⟨by first | omega | exact Nat.le_refl _⟩, ⟨by (with_reducible repeat (first | apply Kd.S_alloc | apply Kd.S_drewN | apply Kd.S_drew)); exact Kd.S_mono HO110.out (fun _ hk => trivial)⟩, ⟨by qR_; exact Kd.R_mono HO114.out (fun _ hk => trivial)⟩, ⟨by qc0_⟩⟩
    ·rw [if_neg c13] at H
     have c13b0 : (t108 == t112) = false := beq_eq_false_iff_ne.mpr c13
     have c13b1 : (t108 != t112) = true := bne_iff_ne.mpr c13
     (first | rw [c13b0] | (simp only [i64_w, i32_w]; rw [c13b0]) | skip)
     have H' := Aside0.mk H
     clear H
     go_wp2
     go_meet
     case rel => exact ⟨_, (true), (by first | rfl | (simp; done) | (simp [*]; done)), H', ⟨by first | omega | exact Nat.le_refl _⟩, ⟨by (with_reducible repeat (first | apply Kd.S_alloc | apply Kd.S_drewN | apply Kd.S_drew)); exact Kd.S_mono HO110.out (fun _ hk => trivial)⟩, ⟨by qR_; exact Kd.R_mono HO114.out (fun _ hk => trivial)⟩, ⟨by qc0_⟩⟩
   case rest =>
    clear HC6
    try clear c1
    try clear c2
    try clear c2b0
    try clear c2b1
    try clear p2
    try clear c3
    try clear c5
    try clear c13
    try clear c13b0
    try clear c13b1
    obtain ⟨kq, x32_5, rfl, HA, HJ5, HO_3, HO_5, HB⟩ := hcut
    cases kq with
    | zero => exact absurd HA.out (by simp [shibbolethlaw06_FrameReads.j0])
    | succ kj5 =>
     have H := HA.out
     clear HA
     simp only [shibbolethlaw06_FrameReads.j0] at H
     by_cases c16 : x32_5 = true
     ·subst c16
      have H1 : (some false) = some r := by rw [if_pos rfl] at H; exact H
      clear H
      have H := H1
      clear H1
      obtain rfl := Option.some.inj H
      go_wp2
      go_ret
      lu200_
     ·replace c16 := Bool.eq_false_iff.mpr c16
      subst c16
      have H1 : (shibbolethlaw06_FrameReads.l0 kj5 t107 t111 0) = some r := by rw [if_neg (show ¬ (false = true) by decide)] at H; exact H
      clear H
      have H := H1
      clear H1
      have H' := Aside0.mk H
      clear H
      go_wp2
      go_loopg [7] kj5 (fun kq v7 w' => ∃ (x7_2 : Int), v7 = .int .i64 x7_2 ∧ Aside0 (shibbolethlaw06_FrameReads.l0 kq t107 t111 x7_2 = some r) ∧ Aside0 (kq ≤ kj5) ∧ Aside0 (Kd.S k58 58 w' w.heap.size (fun _ => True) v109 t107) ∧ Aside0 (Kd.R (Go.Proofs.YtbcleckapamicaaDoor.Rf.kmx w) 62 w' w.heap.size (fun _ => True) v113 t111) ∧ Aside0 (Below w.heap.size w w'))
      case atStart => exact ⟨(0), (by first | rfl | (simp; done) | (simp [*]; done)), H', ⟨Nat.le_refl _⟩, ⟨by (with_reducible repeat (first | apply Kd.S_alloc | apply Kd.S_drewN | apply Kd.S_drew)); exact HO_3.out⟩, ⟨by qR_; exact HO_5.out⟩, ⟨by qc0_⟩⟩
      case round =>
       clear H'
       try clear c1
       try clear c2
       try clear c2b0
       try clear c2b1
       try clear p2
       try clear c3
       try clear c5
       try clear c13
       try clear c13b0
       try clear c13b1
       try clear c16
       try clear p2
       obtain ⟨x7_2, rfl, HA, HK2, HO_3, HO_5, HB⟩ := hrel
       cases gk with
       | zero => exact absurd HA.out (by simp [shibbolethlaw06_FrameReads.l0])
       | succ k2 =>
        have H := HA.out
        clear HA
        simp only [shibbolethlaw06_FrameReads.l0] at H
        by_cases c17 : x7_2 < (t111.length : Int)
        ·rw [if_pos c17] at H
         have c17b0 : decide (x7_2 < (t111.length : Int)) = true := decide_eq_true c17
         clear c17
         by_cases c18 : 0 ≤ x7_2
         ·rw [if_pos c18] at H
          have c18b0 : decide (0 ≤ x7_2) = true := decide_eq_true c18
          clear c18
          by_cases c19 : x7_2 < (t107.length : Int)
          ·rw [if_pos c19] at H
           have c19b0 : decide (x7_2 < (t107.length : Int)) = true := decide_eq_true c19
           clear c19
           replace H := Option.bind_eq_some_iff.mp H
           obtain ⟨t117, A200, H⟩ := H
           replace H : (if t117 = true then (shibbolethlaw06_FrameReads.l0 k2 t107 t111 (wrap64 (x7_2 + 1))) else (some false)) = some r := H
           have A20 := Aside0.mk A200
           clear A200
           by_cases c21 : t117 = true
           ·subst c21
            have H1 : (shibbolethlaw06_FrameReads.l0 k2 t107 t111 (wrap64 (x7_2 + 1))) = some r := by rw [if_pos rfl] at H; exact H
            clear H
            have H := H1
            clear H1
            have H' := Aside0.mk H
            clear H
            obtain ⟨Ao22, co22, eo22⟩ := Kd.R_slice HO_5.out
            subst eo22
            try go_wp2
            have n0_ := Aside0.mk (Kd.S_drew HO_3.out)
            have n1_ := Aside0.mk (Kd.R_drew HO_5.out)
            have n2_ := Aside0.mk (below_drew1 HB.out)
            clear HO_3
            clear HO_5
            clear HB
            have HO_3 := n0_
            have HO_5 := n1_
            have HB := n2_
            clear n0_ n1_ n2_
            obtain ⟨Ao24, co24, eo24⟩ := Kd.S_slice HO_3.out
            (first | subst eo24 | (injection eo24 with f1_ f2_ f3_; have f4_ := f1_.symm; have f5_ := f3_.symm; clear f1_ f2_ f3_; subst f4_; subst f5_))
            have p115 : 0 ≤ (x7_2 : Int) := of_decide_eq_true (pu206_)
            have q115 : x7_2 < (t107.length : Int) := of_decide_eq_true (pu206_)
            lu201_
            cases e115
            lu202_
            obtain ⟨ve115_2, ve115_4, rfl, ge115_2, ge115_4⟩ := k58_openM hMe115
            have hv115_2 := hcc115 2 _ rfl
            rw [add_field _ _ 2 (by omega)] at hv115_2
            replace hv115_2 := Option.some.inj (hv115_2.symm.trans hx115_2)
            rw [hv115_2] at ge115_2
            have HL115_2 := Aside0.mk (show Kd.R k103 103 _ _ _ _ ((rd_T58 t107 x7_2).f2) from ge115_2)
            clear hv115_2 ge115_2
            have hv115_4 := hcc115 4 _ rfl
            rw [add_field _ _ 4 (by omega)] at hv115_4
            replace hv115_4 := Option.some.inj (hv115_4.symm.trans hx115_4)
            rw [hv115_4] at ge115_4
            have HL115_4 := Aside0.mk (show Kd.R (Kd.int .u8) 5 _ _ _ _ ((rd_T58 t107 x7_2).f4) from ge115_4)
            clear hv115_4 ge115_4
            clear hcc115 hce115
            have HR115_2 := Aside0.mk hi115_2
            have HC115_2 := Aside0.mk hl115_2
            clear hi115_2 hl115_2
            have HR115_4 := Aside0.mk hi115_4
            have HC115_4 := Aside0.mk hl115_4
            clear hi115_4 hl115_4
            replace p115 := eq_true p115
            replace q115 := eq_true q115
            have p116 : 0 ≤ (x7_2 : Int) := of_decide_eq_true (pu206_)
            have q116 : x7_2 < (t111.length : Int) := of_decide_eq_true (pu206_)
            lu203_
            cases e116
            have HL116_2 := Aside0.mk (Go.Proofs.YtbcleckapamicaaDoor.Rf.nil_like k102 102 HO_5.out)
            have HL116_4 := Aside0.mk (Go.Proofs.YtbcleckapamicaaDoor.Rf.nil_like (Kd.int .u8) 5 HO_5.out)
            have HR116_2 := Aside0.mk hi116_2
            have HC116_2 := Aside0.mk hl116_2
            clear hi116_2 hl116_2
            have HR116_4 := Aside0.mk hi116_4
            have HC116_4 := Aside0.mk hl116_4
            clear hi116_4 hl116_4
            replace p116 := eq_true p116
            replace q116 := eq_true q116
            lu204_
            generalize wr.drew = w23 at HO_3 HO_5 HB HL115_2 HL115_4 HL116_2 HL116_4 HR115_2 HR115_4 HR116_2 HR116_4 hx115_0 hx115_1 hx115_2 hx115_3 hx115_4 hx115_5 hx116_0 hx116_1 hx116_2 hx116_3 hx116_4 hx116_5 hHeld ⊢
            lu205_
            rotate_left
            ·intro w'
             go_simp
             with_reducible rfl
            rotate_left
            ·qp_
             rfl
            lu206_
            rotate_left
            ·intro w'
             go_simp
             with_reducible rfl
            rotate_left
            ·qp_
             rfl
            lu207_
            rotate_left
            ·intro w'
             go_simp
             with_reducible rfl
            rotate_left
            ·qp_
             rfl
            lu208_
            rotate_left
            ·intro w'
             go_simp
             with_reducible rfl
            rotate_left
            ·qp_
             rfl
            lu209_
            rotate_left
            ·intro w'
             go_simp
             with_reducible rfl
            rotate_left
            ·qp_
             rfl
            lu2010_
            rotate_left
            ·intro w'
             go_simp
             with_reducible rfl
            rotate_left
            ·qp_
             rfl
            lu2011_
            rotate_left
            ·lu2012_
             go_simp
             with_reducible rfl
            rotate_left
            ·qp_
             rfl
            lu2013_
            rotate_left
            ·lu2012_
             go_simp
             with_reducible rfl
            rotate_left
            ·qp_
             rfl
            lu2014_
            lu2015_
            with_reducible refine (shibbolethlaw06_told.calls k2 ((rd_T58 t107 x7_2).f0) ((rd_T58 t107 x7_2).f1) _ _ ((rd_T58 t107 x7_2).f2) ((rd_T58 t107 x7_2).f3) _ _ ((rd_T58 t107 x7_2).f4) ((rd_T58 t107 x7_2).f5) ((rd_T62 t111 x7_2).f0) ((rd_T62 t111 x7_2).f1) _ _ ((rd_T62 t111 x7_2).f2) ((rd_T62 t111 x7_2).f3) _ _ ((rd_T62 t111 x7_2).f4) ((rd_T62 t111 x7_2).f5) true _ ?side1 ?side2 ?side3 ?side4 ?side5 ?side6 ?side7 ?side8 A20.out).mono ?_
            lu2016_
            (case side2 => exact HC115_2.out)
            lu2017_
            (case side4 => exact HC115_4.out)
            lu2018_
            (case side6 => exact HC116_2.out)
            lu2019_
            (case side8 => exact HC116_4.out)
            rintro e w25 ⟨rfl, hb⟩
            have HS0_ := (hb.cell (World.block_lt_of_cell? _ _ (hHeld.1))).trans (hHeld.1)
            have HS1_ := (hb.cell (World.block_lt_of_cell? _ _ (hHeld.2.1))).trans (hHeld.2.1)
            have HS2_ := (hb.cell (World.block_lt_of_cell? _ _ (hHeld.2.2.1))).trans (hHeld.2.2.1)
            have HS3_ := (hb.cell (World.block_lt_of_cell? _ _ (hHeld.2.2.2.1))).trans (hHeld.2.2.2.1)
            have HS4_ := (hb.cell (World.block_lt_of_cell? _ _ (hHeld.2.2.2.2.1))).trans (hHeld.2.2.2.2.1)
            have HS5_ := (hb.cell (World.block_lt_of_cell? _ _ (hHeld.2.2.2.2.2.1))).trans (hHeld.2.2.2.2.2.1)
            have HS6_ := (hb.cell (World.block_lt_of_cell? _ _ (hHeld.2.2.2.2.2.2.1))).trans (hHeld.2.2.2.2.2.2.1)
            have HS7_ := (hb.cell (World.block_lt_of_cell? _ _ (hHeld.2.2.2.2.2.2.2.1))).trans (hHeld.2.2.2.2.2.2.2.1)
            have HS8_ := (hb.cell (World.block_lt_of_cell? _ _ (hHeld.2.2.2.2.2.2.2.2.1))).trans (hHeld.2.2.2.2.2.2.2.2.1)
            have HS9_ := (hb.cell (World.block_lt_of_cell? _ _ (hHeld.2.2.2.2.2.2.2.2.2.1))).trans (hHeld.2.2.2.2.2.2.2.2.2.1)
            have HS10_ := (hb.cell (World.block_lt_of_cell? _ _ (hHeld.2.2.2.2.2.2.2.2.2.2.1))).trans (hHeld.2.2.2.2.2.2.2.2.2.2.1)
            have HS11_ := (hb.cell (World.block_lt_of_cell? _ _ (hHeld.2.2.2.2.2.2.2.2.2.2.2))).trans (hHeld.2.2.2.2.2.2.2.2.2.2.2)
            refine ⟨_, rfl, ?_⟩
            have n0_ := Aside0.mk (Kd.S_below (pu207_) hb)
            have n1_ := Aside0.mk (Kd.R_below (by qR_; exact HO_5.out) hb)
            have n2_ := Aside0.mk (Kd.R_below (by qR_; exact HL115_2.out) hb)
            have n3_ := Aside0.mk (Kd.R_below (by qR_; exact HL115_4.out) hb)
            have n4_ := Aside0.mk (Kd.R_below (by qR_; exact HL116_2.out) hb)
            have n5_ := Aside0.mk (Kd.R_below (by qR_; exact HL116_4.out) hb)
            have n6_ := Aside0.mk (Kd.C_below (pu204_) hb)
            have n7_ := Aside0.mk (Kd.C_below (pu203_) hb)
            have n8_ := Aside0.mk (Kd.C_below (pu202_) hb)
            have n9_ := Aside0.mk (Kd.C_below (pu201_) hb)
            have n10_ := Aside0.mk (below_step (by qc0_) hb)
            clear HO_3
            clear HO_5
            clear HL115_2
            clear HL115_4
            clear HL116_2
            clear HL116_4
            clear HR115_2
            clear HR115_4
            clear HR116_2
            clear HR116_4
            clear HB
            have HO_3 := n0_
            have HO_5 := n1_
            have HL115_2 := n2_
            have HL115_4 := n3_
            have HL116_2 := n4_
            have HL116_4 := n5_
            have HR115_2 := n6_
            have HR115_4 := n7_
            have HR116_2 := n8_
            have HR116_4 := n9_
            have HB := n10_
            clear n0_ n1_ n2_ n3_ n4_ n5_ n6_ n7_ n8_ n9_ n10_
            (try clear hb)
            (try clear hb2)
            (try clear hk)
            (try clear hi)
            refine hK.out _ _ ⟨HS0_, HS1_, HS2_, HS3_, HS4_, HS5_, HS6_, HS7_, HS8_, HS9_, HS10_, HS11_⟩ (fun hHeld => ?_)
            clear hK K
            refine norm_ (a' := ?_) ?_ ?_
            rotate_left
            ·show Act.put _ (some 47) _ = _
             qp_
             rfl
            lu2020_
            rotate_left
            ·intro w'
             go_simp
             with_reducible rfl
            rotate_left
            ·qp_
             rfl
            refine done_ (done_of HT_.out (by kernel_rfl)) ?_
            try go_wp2
            go_roundg k2
            case measure => have := HJ5.out; have := HK2.out; omega
            case rel => exact ⟨(wrap64 (x7_2 + 1)), (by first | rfl | (simp; done) | (simp [*]; done)), H', ⟨by have := HJ5.out; have := HK2.out; omega⟩, ⟨by (with_reducible repeat (first | apply Kd.S_alloc | apply Kd.S_drewN | apply Kd.S_drew)); exact HO_3.out⟩, ⟨by qR_; exact HO_5.out⟩, ⟨by qc0_⟩⟩
           ·replace c21 := Bool.eq_false_iff.mpr c21
            subst c21
            have H1 : (some false) = some r := by rw [if_neg (show ¬ (false = true) by decide)] at H; exact H
            clear H
            have H := H1
            clear H1
            obtain rfl := Option.some.inj H
            obtain ⟨Ao26, co26, eo26⟩ := Kd.R_slice HO_5.out
            subst eo26
            try go_wp2
            have n0_ := Aside0.mk (Kd.S_drew HO_3.out)
            have n1_ := Aside0.mk (Kd.R_drew HO_5.out)
            have n2_ := Aside0.mk (below_drew1 HB.out)
            clear HO_3
            clear HO_5
            clear HB
            have HO_3 := n0_
            have HO_5 := n1_
            have HB := n2_
            clear n0_ n1_ n2_
            obtain ⟨Ao28, co28, eo28⟩ := Kd.S_slice HO_3.out
            (first | subst eo28 | (injection eo28 with f1_ f2_ f3_; have f4_ := f1_.symm; have f5_ := f3_.symm; clear f1_ f2_ f3_; subst f4_; subst f5_))
            have p115 : 0 ≤ (x7_2 : Int) := of_decide_eq_true (pu206_)
            have q115 : x7_2 < (t107.length : Int) := of_decide_eq_true (pu206_)
            lu201_
            cases e115
            lu202_
            obtain ⟨ve115_2, ve115_4, rfl, ge115_2, ge115_4⟩ := k58_openM hMe115
            have hv115_2 := hcc115 2 _ rfl
            rw [add_field _ _ 2 (by omega)] at hv115_2
            replace hv115_2 := Option.some.inj (hv115_2.symm.trans hx115_2)
            rw [hv115_2] at ge115_2
            have HL115_2 := Aside0.mk (show Kd.R k103 103 _ _ _ _ ((rd_T58 t107 x7_2).f2) from ge115_2)
            clear hv115_2 ge115_2
            have hv115_4 := hcc115 4 _ rfl
            rw [add_field _ _ 4 (by omega)] at hv115_4
            replace hv115_4 := Option.some.inj (hv115_4.symm.trans hx115_4)
            rw [hv115_4] at ge115_4
            have HL115_4 := Aside0.mk (show Kd.R (Kd.int .u8) 5 _ _ _ _ ((rd_T58 t107 x7_2).f4) from ge115_4)
            clear hv115_4 ge115_4
            clear hcc115 hce115
            have HR115_2 := Aside0.mk hi115_2
            have HC115_2 := Aside0.mk hl115_2
            clear hi115_2 hl115_2
            have HR115_4 := Aside0.mk hi115_4
            have HC115_4 := Aside0.mk hl115_4
            clear hi115_4 hl115_4
            replace p115 := eq_true p115
            replace q115 := eq_true q115
            have p116 : 0 ≤ (x7_2 : Int) := of_decide_eq_true (pu206_)
            have q116 : x7_2 < (t111.length : Int) := of_decide_eq_true (pu206_)
            lu203_
            cases e116
            have HL116_2 := Aside0.mk (Go.Proofs.YtbcleckapamicaaDoor.Rf.nil_like k102 102 HO_5.out)
            have HL116_4 := Aside0.mk (Go.Proofs.YtbcleckapamicaaDoor.Rf.nil_like (Kd.int .u8) 5 HO_5.out)
            have HR116_2 := Aside0.mk hi116_2
            have HC116_2 := Aside0.mk hl116_2
            clear hi116_2 hl116_2
            have HR116_4 := Aside0.mk hi116_4
            have HC116_4 := Aside0.mk hl116_4
            clear hi116_4 hl116_4
            replace p116 := eq_true p116
            replace q116 := eq_true q116
            lu204_
            generalize wr.drew = w27 at HO_3 HO_5 HB HL115_2 HL115_4 HL116_2 HL116_4 HR115_2 HR115_4 HR116_2 HR116_4 hx115_0 hx115_1 hx115_2 hx115_3 hx115_4 hx115_5 hx116_0 hx116_1 hx116_2 hx116_3 hx116_4 hx116_5 hHeld ⊢
            lu205_
            rotate_left
            ·intro w'
             go_simp
             with_reducible rfl
            rotate_left
            ·qp_
             rfl
            lu206_
            rotate_left
            ·intro w'
             go_simp
             with_reducible rfl
            rotate_left
            ·qp_
             rfl
            lu207_
            rotate_left
            ·intro w'
             go_simp
             with_reducible rfl
            rotate_left
            ·qp_
             rfl
            lu208_
            rotate_left
            ·intro w'
             go_simp
             with_reducible rfl
            rotate_left
            ·qp_
             rfl
            lu209_
            rotate_left
            ·intro w'
             go_simp
             with_reducible rfl
            rotate_left
            ·qp_
             rfl
            lu2010_
            rotate_left
            ·intro w'
             go_simp
             with_reducible rfl
            rotate_left
            ·qp_
             rfl
            lu2011_
            rotate_left
            ·lu2012_
             go_simp
             with_reducible rfl
            rotate_left
            ·qp_
             rfl
            lu2013_
            rotate_left
            ·lu2012_
             go_simp
             with_reducible rfl
            rotate_left
            ·qp_
             rfl
            lu2014_
            lu2015_
            with_reducible refine (shibbolethlaw06_told.calls k2 ((rd_T58 t107 x7_2).f0) ((rd_T58 t107 x7_2).f1) _ _ ((rd_T58 t107 x7_2).f2) ((rd_T58 t107 x7_2).f3) _ _ ((rd_T58 t107 x7_2).f4) ((rd_T58 t107 x7_2).f5) ((rd_T62 t111 x7_2).f0) ((rd_T62 t111 x7_2).f1) _ _ ((rd_T62 t111 x7_2).f2) ((rd_T62 t111 x7_2).f3) _ _ ((rd_T62 t111 x7_2).f4) ((rd_T62 t111 x7_2).f5) false _ ?side1 ?side2 ?side3 ?side4 ?side5 ?side6 ?side7 ?side8 A20.out).mono ?_
            lu2016_
            (case side2 => exact HC115_2.out)
            lu2017_
            (case side4 => exact HC115_4.out)
            lu2018_
            (case side6 => exact HC116_2.out)
            lu2019_
            (case side8 => exact HC116_4.out)
            rintro e w29 ⟨rfl, hb⟩
            have HS0_ := (hb.cell (World.block_lt_of_cell? _ _ (hHeld.1))).trans (hHeld.1)
            have HS1_ := (hb.cell (World.block_lt_of_cell? _ _ (hHeld.2.1))).trans (hHeld.2.1)
            have HS2_ := (hb.cell (World.block_lt_of_cell? _ _ (hHeld.2.2.1))).trans (hHeld.2.2.1)
            have HS3_ := (hb.cell (World.block_lt_of_cell? _ _ (hHeld.2.2.2.1))).trans (hHeld.2.2.2.1)
            have HS4_ := (hb.cell (World.block_lt_of_cell? _ _ (hHeld.2.2.2.2.1))).trans (hHeld.2.2.2.2.1)
            have HS5_ := (hb.cell (World.block_lt_of_cell? _ _ (hHeld.2.2.2.2.2.1))).trans (hHeld.2.2.2.2.2.1)
            have HS6_ := (hb.cell (World.block_lt_of_cell? _ _ (hHeld.2.2.2.2.2.2.1))).trans (hHeld.2.2.2.2.2.2.1)
            have HS7_ := (hb.cell (World.block_lt_of_cell? _ _ (hHeld.2.2.2.2.2.2.2.1))).trans (hHeld.2.2.2.2.2.2.2.1)
            have HS8_ := (hb.cell (World.block_lt_of_cell? _ _ (hHeld.2.2.2.2.2.2.2.2.1))).trans (hHeld.2.2.2.2.2.2.2.2.1)
            have HS9_ := (hb.cell (World.block_lt_of_cell? _ _ (hHeld.2.2.2.2.2.2.2.2.2.1))).trans (hHeld.2.2.2.2.2.2.2.2.2.1)
            have HS10_ := (hb.cell (World.block_lt_of_cell? _ _ (hHeld.2.2.2.2.2.2.2.2.2.2.1))).trans (hHeld.2.2.2.2.2.2.2.2.2.2.1)
            have HS11_ := (hb.cell (World.block_lt_of_cell? _ _ (hHeld.2.2.2.2.2.2.2.2.2.2.2))).trans (hHeld.2.2.2.2.2.2.2.2.2.2.2)
            refine ⟨_, rfl, ?_⟩
            have n0_ := Aside0.mk (Kd.S_below (pu207_) hb)
            have n1_ := Aside0.mk (Kd.R_below (by qR_; exact HO_5.out) hb)
            have n2_ := Aside0.mk (Kd.R_below (by qR_; exact HL115_2.out) hb)
            have n3_ := Aside0.mk (Kd.R_below (by qR_; exact HL115_4.out) hb)
            have n4_ := Aside0.mk (Kd.R_below (by qR_; exact HL116_2.out) hb)
            have n5_ := Aside0.mk (Kd.R_below (by qR_; exact HL116_4.out) hb)
            have n6_ := Aside0.mk (Kd.C_below (pu204_) hb)
            have n7_ := Aside0.mk (Kd.C_below (pu203_) hb)
            have n8_ := Aside0.mk (Kd.C_below (pu202_) hb)
            have n9_ := Aside0.mk (Kd.C_below (pu201_) hb)
            have n10_ := Aside0.mk (below_step (by qc0_) hb)
            clear HO_3
            clear HO_5
            clear HL115_2
            clear HL115_4
            clear HL116_2
            clear HL116_4
            clear HR115_2
            clear HR115_4
            clear HR116_2
            clear HR116_4
            clear HB
            have HO_3 := n0_
            have HO_5 := n1_
            have HL115_2 := n2_
            have HL115_4 := n3_
            have HL116_2 := n4_
            have HL116_4 := n5_
            have HR115_2 := n6_
            have HR115_4 := n7_
            have HR116_2 := n8_
            have HR116_4 := n9_
            have HB := n10_
            clear n0_ n1_ n2_ n3_ n4_ n5_ n6_ n7_ n8_ n9_ n10_
            (try clear hb)
            (try clear hb2)
            (try clear hk)
            (try clear hi)
            refine hK.out _ _ ⟨HS0_, HS1_, HS2_, HS3_, HS4_, HS5_, HS6_, HS7_, HS8_, HS9_, HS10_, HS11_⟩ (fun hHeld => ?_)
            clear hK K
            refine norm_ (a' := ?_) ?_ ?_
            rotate_left
            ·show Act.put _ (some 47) _ = _
             qp_
             rfl
            lu2020_
            rotate_left
            ·intro w'
             go_simp
             with_reducible rfl
            rotate_left
            ·qp_
             rfl
            refine done_ (done_of HT_.out (by kernel_rfl)) ?_
            try go_wp2
            go_ret
            lu200_
          ·rw [if_neg c19] at H
           exact absurd H (by simp)
         ·rw [if_neg c18] at H
          exact absurd H (by simp)
        ·rw [if_neg c17] at H
         have c17b0 : decide (x7_2 < (t111.length : Int)) = false := decide_eq_false c17
         clear c17
         replace H := Option.bind_eq_some_iff.mp H
         obtain ⟨t118, A300, H⟩ := H
         replace H : (some t118) = some r := H
         have A30 := Aside0.mk A300
         clear A300
         obtain rfl := Option.some.inj H
         obtain ⟨Ao31, co31, eo31⟩ := Kd.R_slice HO_5.out
         subst eo31
         go_wp2_with (first | ((with_reducible refine gate_callee (f := 49) rfl ?_); refine goesL_ (some 49) rfl rfl Tryd.func49 (by kernel_rfl) rfl #[] rfl (pu205_) ?_; (with_reducible refine (shibbolethlaw06_awake.calls k2  t118 _ ?sideT A30.out).mono ?_); (case sideT => repeat (first | exact HT.out | exact TB.below HT.out HB.out | exact TB.below HT.out HBW.out | (with_reducible refine TB.alloc ?_ _) | (with_reducible refine TB.drewN ?_ _) | (with_reducible refine TB.drew ?_))); rintro e w32 ⟨rfl, hb⟩; refine ⟨_, rfl, ?_⟩; have n0_ := Aside0.mk (Kd.S_below (pu207_) hb); have n1_ := Aside0.mk (Kd.R_below (by qR_; exact HO_5.out) hb); have n2_ := Aside0.mk (below_step (by qc0_) hb); clear HO_3; clear HO_5; clear HB; have HO_3 := n0_; have HO_5 := n1_; have HB := n2_; clear n0_ n1_ n2_; (try clear hb); (try clear hb2); (try clear hk); (try clear hi)))
         go_ret
         lu200_
  ·rw [if_neg c3] at H
   exact absurd H (by simp)
def shibbolethlaw06_FrameReads.Pure : Prop := ∀ (l0 : List Int), l0.length ≤ maxLen → l0.length * 1 ≤ 140737488351232 → (∀ x ∈ l0, (Lit.int .u8 x).wf = true) → ∃ k, shibbolethlaw06_FrameReads.f k l0 = some true
end Go.Proofs.YtbcleckapamicaaDoor.QFx
namespace Go.Proofs.YtbcleckapamicaaDoor.Opn
open Go.RowKit Go.Proofs.YtbcleckapamicaaDoorW.PrintWords
set_option linter.unusedVariables false
variable {P : Program}
def Opens (P : Program) (t : TypeId) {α : Type} (d : Kd α) (ok : α → Prop) : Prop :=
  ∀ (H : Type) (enc : TypeId × Value → H) (w : World) (base : Nat) (spare : Nat → Bool) (held : Bool) (fuel : Nat) (cs : List Value) (x : DataW H × List MemPlace),
    DataW.trod enc P w base spare held fuel t cs = some x → ∃ a, d.K w a cs ∧ ok a
theorem Opens.int {t : TypeId} {k : IntKind} (ht : P.underlying t = some (.int k)) : Opens P t (Kd.int k) (fun n => (Lit.int k n).wf = true) := by
  intro H enc w base spare held fuel cs x h
  obtain ⟨n, rfl, _, hw⟩ := DataW.trod_int ht h
  exact ⟨n, rfl, hw⟩
theorem Opens.bool {t : TypeId} (ht : P.underlying t = some .bool) : Opens P t Kd.bool (fun _ => True) := by
  intro H enc w base spare held fuel cs x h
  obtain ⟨b, rfl, _⟩ := DataW.trod_bool ht h
  exact ⟨b, rfl, trivial⟩
theorem Opens.slice {t e : TypeId} {α : Type} {d : Kd α} {ok : α → Prop} (ht : P.underlying t = some (.slice e)) (hs : P.cellsOf e = d.sz) (he : Opens P e d ok) :
    Opens P t (Kd.slice e d) (fun xs => xs.length ≤ 9223372036854775807 ∧ ∀ x ∈ xs, ok x) := by
  classical
  intro H enc w base spare held fuel cs x h
  rcases Go.Deep.open_slice ht h with ⟨rfl, _⟩ | ⟨a, len, cap, m, n, D, Pl, rfl, hb, hl, hm, hmm, _, hx⟩
  · exact ⟨[], ⟨none, 0, rfl, by simp, Kd.C_nil d w⟩, by simp, by simp⟩
  · have hlm : len ≤ m := by rw [hmm]; split <;> omega
    have hex : ∀ i, i < len → ∃ p : α, (∃ c, c.length = d.sz ∧ d.K w p c ∧ ∀ j u, c[j]? = some u → w.cell? (a.add (i * d.sz + j)) = some u) ∧ ok p := by
      intro i hi
      obtain ⟨c, hc1, hc2⟩ := hx i (by omega)
      obtain ⟨_, hlen, hcell⟩ := World.cells?_some hc1
      obtain ⟨p, hK, ho⟩ := he H enc w base spare held n c _ hc2
      rw [hs] at hlen hcell
      refine ⟨p, ⟨c, hlen, hK, fun j u hj => ?_⟩, ho⟩
      have hjl : j < d.sz := by
        rcases Nat.lt_or_ge j c.length with h1 | h1
        · omega
        · rw [List.getElem?_eq_none h1] at hj; cases hj
      have := hcell j hjl
      rw [Addr.add_add] at this
      rw [this, hj]
    have hmax : len ≤ 9223372036854775807 := by have := hm; simp only [maxLen] at this; omega
    have hL : ∃ l : List α, l.length = len ∧ ∀ (i : Nat) (p : α), l[i]? = some p → (∃ c, c.length = d.sz ∧ d.K w p c ∧ ∀ j u, c[j]? = some u → w.cell? (a.add (i * d.sz + j)) = some u) ∧ ok p := by
      refine ⟨List.ofFn (fun i : Fin len => Classical.choose (hex i.1 i.2)), by simp, fun i p hp => ?_⟩
      rw [List.getElem?_ofFn] at hp
      split at hp
      · rename_i hi
        obtain rfl := Option.some.inj hp
        exact Classical.choose_spec (hex i hi)
      · cases hp
    obtain ⟨l, hlen, hall⟩ := hL
    refine ⟨l, ⟨some a, cap, by rw [hlen], by omega, hlen ▸ rfl, by omega, fun _ => ⟨a, rfl, fun j p hp => (hall j p hp).1⟩⟩, by omega, fun p hp => ?_⟩
    obtain ⟨i, hi, rfl⟩ := List.mem_iff_getElem.1 hp
    exact (hall i _ (List.getElem?_eq_getElem hi)).2
def OpensF (P : Program) (fs : List Field) (off : Nat) {α : Type} (d : Kd α) (ok : α → Prop) : Prop :=
  ∀ (H : Type) (enc : TypeId × Value → H) (w : World) (base : Nat) (spare : Nat → Bool) (held : Bool) (n : Nat) (cs : List Value), cs.length = off + d.sz →
    (∀ f, f ∈ fs → ∃ y, DataW.trod enc P w base spare held n f.type ((cs.drop f.offset).take (P.cellsOf f.type)) = some y) → ∃ a, d.K w a (cs.drop off) ∧ ok a
theorem OpensF.last {f : Field} {off : Nat} {α : Type} {d : Kd α} {ok : α → Prop} (ho : f.offset = off) (hc : P.cellsOf f.type = d.sz) (h : Opens P f.type d ok) : OpensF P [f] off d ok := by
  intro H enc w base spare held n cs hl hf
  obtain ⟨y, hy⟩ := hf f (List.mem_singleton.2 rfl)
  rw [ho, hc, List.take_of_length_le (by simp; omega)] at hy
  exact h H enc w base spare held n _ _ hy
theorem OpensF.cons {f : Field} {fs : List Field} {off : Nat} {α β : Type} {d : Kd α} {d' : Kd β} {ok : α → Prop} {ok' : β → Prop} (ho : f.offset = off) (hc : P.cellsOf f.type = d.sz) (h : Opens P f.type d ok) (h' : OpensF P fs (off + d.sz) d' ok') :
    OpensF P (f :: fs) off (Kd.pair d d') (fun p => ok p.1 ∧ ok' p.2) := by
  intro H enc w base spare held n cs hl hf
  have hl' : cs.length = off + (d.sz + d'.sz) := hl
  obtain ⟨y, hy⟩ := hf f (List.mem_cons_self ..)
  rw [ho, hc] at hy
  obtain ⟨a, hK, hok⟩ := h H enc w base spare held n _ _ hy
  obtain ⟨b, hK', hok'⟩ := h' H enc w base spare held n cs (by omega) (fun g hg => hf g (List.mem_cons_of_mem _ hg))
  refine ⟨(a, b), ⟨_, _, ?_, hK, hK'⟩, hok, hok'⟩
  rw [← List.drop_drop, List.take_append_drop]
theorem OpensF.iso {fs : List Field} {off : Nat} {α β : Type} {d : Kd α} {ok : α → Prop} {f : β → α} (g : α → β) (hg : ∀ a, f (g a) = a) (h : OpensF P fs off d ok) : OpensF P fs off (Kd.iso d f) (fun b => ok (f b)) := by
  intro H enc w base spare held n cs hl hf
  obtain ⟨a, hK, hok⟩ := h H enc w base spare held n cs hl hf
  exact ⟨g a, by show d.K w (f (g a)) _; rw [hg]; exact hK, by show ok (f (g a)); rw [hg]; exact hok⟩
theorem Opens.struct {t : TypeId} {fs : Array Field} {α : Type} {d : Kd α} {ok : α → Prop} (ht : P.underlying t = some (.struct fs)) (hs : P.cellsOf t = d.sz) (h : OpensF P fs.toList 0 d ok) : Opens P t d ok := by
  intro H enc w base spare held fuel cs x hx
  obtain ⟨xs, n, _, _, hl, hlen, hf⟩ := DataW.trod_struct ht hx
  have := h H enc w base spare held n cs (by rw [hl, hs]; omega) (fun f hm => ?_)
  · rwa [List.drop_zero] at this
  · obtain ⟨i, hi, rfl⟩ := List.mem_iff_getElem.1 hm
    have hi' : i < fs.size := by simpa using hi
    have := hf i fs[i] (by simp [hi'])
    refine ⟨xs[i]'(by omega), ?_⟩
    rw [List.getElem?_eq_getElem (show i < xs.length by omega)] at this
    simpa using this
theorem Opens.value {t : TypeId} {α : Type} {d : Kd α} {ok : α → Prop} (h : Opens P t d ok) {H : Type} {enc : TypeId × Value → H} {w : World} {base : Nat} {spare : Nat → Bool} {held : Bool} {v : Value} {x : DataW H} {ps : List MemPlace} (hv : DataW.Trod enc P w base spare held t v x ps) :
    ∃ a, d.K w a v.cells.toList ∧ ok a := by
  obtain ⟨fuel, hf⟩ := hv
  exact h H enc w base spare held fuel _ _ hf
theorem Opens.sliceValue {t e : TypeId} {α : Type} {d : Kd α} {ok : List α → Prop} (h : Opens P t (Kd.slice e d) ok) {H : Type} {enc : TypeId × Value → H} {w : World} {base : Nat} {spare : Nat → Bool} {held : Bool} {a : Option Addr} {len cap : Nat} {x : DataW H} {ps : List MemPlace} (hv : DataW.Trod enc P w base spare held t (.slice a len cap) x ps) :
    ∃ l : List α, len = l.length ∧ l.length ≤ cap ∧ d.C w a l.length l ∧ ok l := by
  obtain ⟨l, ⟨A, c, hcs, hl, hC⟩, ho⟩ := h.value hv
  simp [Value.cells] at hcs
  obtain ⟨rfl, rfl, rfl⟩ := hcs
  exact ⟨l, rfl, hl, hC, ho⟩
end Go.Proofs.YtbcleckapamicaaDoor.Opn
namespace Go.Proofs.YtbcleckapamicaaDoor.frameReadsPrm
open Go.RowKit Go.Proofs.YtbcleckapamicaaDoorW.PrintWords Go.Proofs.YtbcleckapamicaaDoor.QFx Go.Proofs.YtbcleckapamicaaDoor.Opn Go.Proofs.YtbcleckapamicaaDoor.QFr
set_option linter.unusedVariables false
def ok5 : Int → Prop := fun n => (Lit.int .u8 n).wf = true
theorem opens_ok5 : Opens Tryd.prog 5 (Kd.int .u8) ok5 := Opens.int Tryd.underlying5
def ok22 : List (Int) → Prop := fun xs => xs.length ≤ 9223372036854775807 ∧ ∀ x ∈ xs, ok5 x
theorem opens_ok22 : Opens Tryd.prog 22 (Kd.slice 5 (Kd.int .u8)) ok22 := Opens.slice Tryd.underlying22 (by kernel_rfl) opens_ok5
def Pure : Prop := ∀ (x0 : List (Int)), ok22 x0 → ∃ k, shibbolethlaw06_FrameReads.f k x0 = some true
end Go.Proofs.YtbcleckapamicaaDoor.frameReadsPrm
namespace Go.Proofs.YtbcleckapamicaaDoor.QFd
open Go.RowKit Go.Proofs.YtbcleckapamicaaDoorW.PrintWords Go.Proofs.YtbcleckapamicaaDoorW.PrintLast Go.Proofs.YtbcleckapamicaaDoorW.PrintMore
attribute [local go_sem] max2_int min2_int max_two min_two max_three min_three max_four min_four
set_option linter.unusedVariables false
set_option linter.unusedSimpArgs false
end Go.Proofs.YtbcleckapamicaaDoor.QFd
namespace Go.Proofs.YtbcleckapamicaaDoor.Tk
open Go.RowKit Go.Proofs.YtbcleckapamicaaDoorW.PrintWords Go.Proofs.YtbcleckapamicaaDoorW.PrintLast Go.Proofs.YtbcleckapamicaaDoorW.PrintMore
open Go.Proofs.YtbcleckapamicaaDoor.QVa (shibbolethref01_Read.f shibbolethref01_Read.calls shibbolethref01_Read.mono)
set_option linter.unusedVariables false
set_option linter.unusedSimpArgs false
theorem info5 : (Tryd.prog.info? 5).map (fun i => (i.zero, i.size, i.bytes)) = some (some (.int .u8 0), 1, 1) := by kernel_rfl
end Go.Proofs.YtbcleckapamicaaDoor.Tk
namespace Go.Proofs.YtbcleckapamicaaDoor.TkP
open Go.RowKit Go.Proofs.YtbcleckapamicaaDoor.QVa Go.Proofs.YtbcleckapamicaaDoor.Vn Go.Proofs.YtbcleckapamicaaDoor.VaP Go.Proofs.YtbcleckapamicaaDoorW.PrintWords
open Go.Proofs.YtbcleckapamicaaDoor.Gv (bits_TrailingZeros.f slices_Clone_byte_byte.f varint_Size.f varint_Read.f)
set_option linter.unusedVariables false
set_option linter.unusedSimpArgs false
theorem vread_ok (l : List Int) (n s : Int) (h : vread l = (n, s, 0)) : 0 ≤ n ∧ n ≤ 4611686018427387903 ∧ 1 ≤ s ∧ s ≤ l.length ∧ s ≤ 8 := by
  unfold vread at h
  by_cases h0 : l.length = 0
  · rw [if_pos h0] at h; simp at h
  · rw [if_neg h0] at h
    by_cases h1 : l.length < 2 ^ (rd l 0 / 64).toNat
    · rw [if_pos h1] at h; simp at h
    · rw [if_neg h1] at h
      have hq : 1 ≤ (2 ^ (rd l 0 / 64).toNat : Nat) := Nat.one_le_two_pow
      generalize (2 ^ (rd l 0 / 64).toNat : Nat) = q at h h1 hq
      generalize num (rd l 0 % 64) ((l.take q).drop 1) = m at h
      by_cases h2 : vsize m = (q : Int)
      · rw [if_pos h2] at h
        simp only [Prod.mk.injEq, and_true] at h
        obtain ⟨rfl, rfl⟩ := h
        have hv := vsize_cases m
        omega
      · rw [if_neg h2] at h; simp at h
end Go.Proofs.YtbcleckapamicaaDoor.TkP
namespace Go.Proofs.YtbcleckapamicaaDoor.FdP
open Go.RowKit Go.Proofs.YtbcleckapamicaaDoorW.PrintWords Go.Proofs.YtbcleckapamicaaDoorW.PrintLast Go.Proofs.YtbcleckapamicaaDoorW.PrintMore Go.Proofs.YtbcleckapamicaaDoor.QFr Go.Proofs.YtbcleckapamicaaDoor.Vn Go.Proofs.YtbcleckapamicaaDoor.FrP
open Go.Proofs.YtbcleckapamicaaDoor.Gf (tbytes)
open Go.Proofs.YtbcleckapamicaaDoor.Fd (num4 rnum rbyt rtrm padF gapF spanF ackF ackR body fr58 next frames)
set_option linter.unusedVariables false
set_option linter.unusedSimpArgs false
def fb58 (f : S58) : List Int := fbytes f.f0 f.f1 f.f2 f.f3 f.f4 f.f5
theorem vread_canon {l : List Int} (hB : Bytes l) {n s : Int} (h : vread l = (n, s, 0)) : l = vbytes n ++ l.drop s.toNat := by
  unfold vread at h
  by_cases h0 : l.length = 0
  · rw [if_pos h0] at h; simp at h
  rw [if_neg h0] at h
  have hb0 := bytes_rd hB 0 (by omega)
  by_cases h1 : l.length < 2 ^ (rd l 0 / 64).toNat
  · rw [if_pos h1] at h; simp at h
  rw [if_neg h1] at h
  obtain ⟨q, hq⟩ : ∃ q : Nat, (rd l 0 / 64).toNat = q := ⟨_, rfl⟩
  rw [hq] at h h1
  have hz : ((0 : Nat) : Int) = 0 := rfl
  rw [hz] at hb0
  have hq4 : q < 4 := by omega
  by_cases h2 : vsize (num (rd l 0 % 64) ((l.take (2 ^ q)).drop 1)) = ((2 ^ q : Nat) : Int)
  rotate_left
  · rw [if_neg h2] at h; simp at h
  rw [if_pos h2] at h
  simp only [Prod.mk.injEq, and_true] at h
  obtain ⟨rfl, rfl⟩ := h
  have hs := vsize_cases (num (rd l 0 % 64) ((l.take (2 ^ q)).drop 1))
  rw [h2] at hs
  match q, hq4 with
  | 0, _ =>
    match l, h0 with
    | a :: t, _ =>
      have ha : rd (a :: t) 0 = a := rfl
      rw [ha] at hs hb0 hq ⊢
      simp only [num, Nat.pow_zero, List.take_succ_cons, List.take_zero, List.drop_succ_cons, List.drop_zero, List.foldl_nil, Int.cast_ofNat_Int, Int.toNat_one] at hs ⊢
      rcases hs with ⟨x, y, z⟩ | ⟨x, y, z⟩ | ⟨x, y, z⟩ | ⟨x, y, z⟩ | ⟨x, y, z⟩ <;> first | (exfalso; omega) | skip
      rw [z]
      simp
      omega
  | 1, _ =>
    match l, h1 with
    | [], h1 => simp at h0
    | [a], h1 => simp at h1
    | a :: b :: t, _ =>
      have ha : rd (a :: b :: t) 0 = a := rfl
      rw [ha] at hs hb0 hq ⊢
      have hb := hB b (by simp)
      simp only [num, Nat.reducePow, List.take_succ_cons, List.take_zero, List.drop_succ_cons, List.drop_zero, List.foldl_nil, List.foldl_cons, Int.toNat_natCast] at hs ⊢
      rcases hs with ⟨x, y, z⟩ | ⟨x, y, z⟩ | ⟨x, y, z⟩ | ⟨x, y, z⟩ | ⟨x, y, z⟩ <;> first | (exfalso; omega) | skip
      rw [z]
      simp
      omega
  | 2, _ =>
    match l, h1 with
    | [], h1 => simp at h0
    | [a], h1 => simp at h1
    | [a, b], h1 => simp at h1
    | [a, b, c], h1 => simp at h1
    | a :: b :: c :: d :: t, _ =>
      have ha : rd (a :: b :: c :: d :: t) 0 = a := rfl
      rw [ha] at hs hb0 hq ⊢
      have hb := hB b (by simp)
      have hc := hB c (by simp)
      have hd := hB d (by simp)
      simp only [num, Nat.reducePow, List.take_succ_cons, List.take_zero, List.drop_succ_cons, List.drop_zero, List.foldl_nil, List.foldl_cons, Int.toNat_natCast] at hs ⊢
      rcases hs with ⟨x, y, z⟩ | ⟨x, y, z⟩ | ⟨x, y, z⟩ | ⟨x, y, z⟩ | ⟨x, y, z⟩ <;> first | (exfalso; omega) | skip
      rw [z]
      simp
      omega
  | 3, _ =>
    match l, h1 with
    | [], h1 => simp at h0
    | [a], h1 => simp at h1
    | [a, b], h1 => simp at h1
    | [a, b, c], h1 => simp at h1
    | [a, b, c, d], h1 => simp at h1
    | [a, b, c, d, e], h1 => simp at h1
    | [a, b, c, d, e, f], h1 => simp at h1
    | [a, b, c, d, e, f, g], h1 => simp at h1
    | a :: b :: c :: d :: e :: f :: g :: i :: t, _ =>
      have ha : rd (a :: b :: c :: d :: e :: f :: g :: i :: t) 0 = a := rfl
      rw [ha] at hs hb0 hq ⊢
      have hb := hB b (by simp)
      have hc := hB c (by simp)
      have hd := hB d (by simp)
      have he := hB e (by simp)
      have hf := hB f (by simp)
      have hg := hB g (by simp)
      have hi := hB i (by simp)
      simp only [num, Nat.reducePow, List.take_succ_cons, List.take_zero, List.drop_succ_cons, List.drop_zero, List.foldl_nil, List.foldl_cons, Int.toNat_natCast] at hs ⊢
      rcases hs with ⟨x, y, z⟩ | ⟨x, y, z⟩ | ⟨x, y, z⟩ | ⟨x, y, z⟩ | ⟨x, y, z⟩ <;> first | (exfalso; omega) | skip
      rw [z]
      simp
      omega
theorem rnum_inv {l r : List Int} (hB : Bytes l) {n : Int} (h : rnum l = some (n, r)) : 0 ≤ n ∧ n ≤ 4611686018427387903 ∧ l = vbytes n ++ r := by
  unfold rnum at h
  split at h
  · rename_i h0
    injection h with h
    injection h with h1 h2
    have hv : vread l = (n, (vread l).2.1, 0) := by rw [← h1, ← h0]
    have a := TkP.vread_ok l _ _ hv
    refine ⟨a.1, a.2.1, ?_⟩
    rw [← h2]
    exact vread_canon hB hv
  · cases h
theorem rnum_len {l r : List Int} {n : Int} (h : rnum l = some (n, r)) : r.length ≤ l.length ∧ (∀ x ∈ r, x ∈ l) := by
  unfold rnum at h
  split at h
  · injection h with h
    injection h with h1 h2
    rw [← h2]
    exact ⟨by simp, fun x hx => List.mem_of_mem_drop hx⟩
  · cases h
theorem rbyt_inv {l d r : List Int} {n : Int} (h0 : 0 ≤ n) (h : rbyt l n = some (d, r)) : l = d ++ r ∧ (d.length : Int) = n := by
  unfold rbyt at h
  split at h
  · injection h with h
    injection h with h1 h2
    rw [← h1, ← h2]
    refine ⟨(List.take_append_drop _ _).symm, ?_⟩
    simp
    omega
  · cases h
theorem rtrm_inv {l r : List Int} (hB : Bytes l) {h : Int} (hh : rtrm l = some (h, r)) : 1 ≤ h ∧ h ≤ 65536 ∧ l = tbytes h ++ r := by
  unfold rtrm at hh
  split at hh
  · rename_i q
    injection hh with hh
    injection hh with e1 e2
    match l, q.1 with
    | a :: b :: c :: d :: t, _ =>
      have ha := hB a (by simp)
      have hb := hB b (by simp)
      have hc := hB c (by simp)
      have hd := hB d (by simp)
      have q2 := q.2
      simp only [List.take_succ_cons, List.take_zero, num4, Fd.upto] at e1 q2
      simp only [List.drop_succ_cons, List.drop_zero] at e2
      subst e2
      refine ⟨by omega, by omega, ?_⟩
      unfold tbytes
      rw [if_neg (by omega)]
      have x1 : h / 16777216 % 256 = a := by omega
      have x2 : h / 65536 % 256 = b := by omega
      have x3 : h / 256 % 256 = c := by omega
      have x4 : h % 256 = d := by omega
      rw [x1, x2, x3, x4]
      rfl
  · cases hh
theorem padF_inv : ∀ l : List Int, l = List.replicate (padF l).1 0 ++ (padF l).2 ∧ (padF l).2.head? ≠ some 0 := by
  intro l
  induction l with
  | nil => exact ⟨rfl, by simp [padF]⟩
  | cons x t ih =>
    rw [padF]
    by_cases hx : x = 0
    · rw [if_pos hx]
      refine ⟨?_, ih.2⟩
      rw [List.replicate_succ, List.cons_append, ← ih.1, hx]
    · rw [if_neg hx]
      refine ⟨rfl, ?_⟩
      simp
      exact hx
def ackB : Int → List S103 → List Int
  | _, [] => []
  | p, s :: t => vbytes (p - s.f1 - 2) ++ vbytes (s.f1 - s.f0) ++ ackB s.f0 t
def okB : Int → List S103 → Prop
  | _, [] => True
  | p, s :: t => 0 ≤ s.f0 ∧ s.f0 ≤ s.f1 ∧ s.f1 ≤ 4611686018427387903 ∧ s.f1 ≤ p - 2 ∧ okB s.f0 t
theorem gapF_inv {tp : Int} {l : List Int} (hB : Bytes l) {g : Int × List Int} (h : gapF tp l = some g) : ∃ n, 0 ≤ n ∧ n ≤ 4611686018427387903 ∧ n + 2 ≤ tp ∧ g.1 = tp - (n + 2) ∧ l = vbytes n ++ g.2 := by
  unfold gapF at h
  obtain ⟨⟨n, r⟩, hr, h⟩ := Option.bind_eq_some_iff.1 h
  have a := rnum_inv hB hr
  simp only [] at h
  split at h
  · injection h with h; subst h
    exact ⟨n, a.1, a.2.1, by assumption, rfl, a.2.2⟩
  · cases h
theorem spanF_inv {tp : Int} {l : List Int} (hB : Bytes l) {g : S103 × List Int} (h : spanF tp l = some g) : ∃ n, 0 ≤ n ∧ n ≤ 4611686018427387903 ∧ n ≤ tp ∧ g.1 = ⟨tp - n, tp⟩ ∧ l = vbytes n ++ g.2 := by
  unfold spanF at h
  obtain ⟨⟨n, r⟩, hr, h⟩ := Option.bind_eq_some_iff.1 h
  have a := rnum_inv hB hr
  simp only [] at h
  split at h
  · injection h with h; subst h
    exact ⟨n, a.1, a.2.1, by assumption, rfl, a.2.2⟩
  · cases h
theorem ackF_inv : ∀ (d : Nat) (p : Int) (l : List Int) (s : List S103) (r : List Int), Bytes l → p ≤ 4611686018427387903 → ackF d p l = some (s, r) → s.length = d ∧ okB p s ∧ l = ackB p s ++ r := by
  intro d
  induction d with
  | zero => intro p l s r _ _ h; injection h with h; injection h with h1 h2; subst h1 h2; exact ⟨rfl, trivial, rfl⟩
  | succ d ih =>
    intro p l s r hB hp h
    rw [ackF] at h
    obtain ⟨g, hg, h⟩ := Option.bind_eq_some_iff.1 h
    obtain ⟨sp, hs, h⟩ := Option.bind_eq_some_iff.1 h
    obtain ⟨⟨t, r'⟩, ht, h⟩ := Option.map_eq_some_iff.1 h
    injection h with h1 h2
    subst h1 h2
    obtain ⟨n, n0, n1, n2, n3, e1⟩ := gapF_inv hB hg
    have hB1 : Bytes g.2 := fun x hx => hB x (by rw [e1]; simp [hx])
    obtain ⟨m, m0, m1, m2, m3, e2⟩ := spanF_inv hB1 hs
    have hB2 : Bytes sp.2 := fun x hx => hB1 x (by rw [e2]; simp [hx])
    rw [m3] at ht ⊢
    have a := ih _ _ _ _ hB2 (by simp only []; omega) ht
    refine ⟨by simp [a.1], ⟨by simp only []; omega, by simp only []; omega, by simp only []; omega, by simp only []; omega, a.2.1⟩, ?_⟩
    have x1 : p - g.1 - 2 = n := by omega
    have x2 : g.1 - (g.1 - m) = m := by omega
    simp only [ackB, x1, x2, List.append_assoc, ← a.2.2, ← e2, ← e1]
theorem rd_drop (l : List S103) (i : Nat) {s : S103} {t : List S103} (h : l.drop i = s :: t) : rd_T103 l (i : Int) = s ∧ l.drop (i + 1) = t ∧ i < l.length := by
  have hi : i < l.length := by
    rcases Nat.lt_or_ge i l.length with q | q
    · exact q
    · rw [List.drop_of_length_le q] at h; cases h
  rw [List.drop_eq_getElem_cons hi] at h
  injection h with h1 h2
  exact ⟨by simp [rd_T103, List.getD_eq_getElem?_getD, List.getElem?_eq_getElem hi, h1], h2, hi⟩
theorem ackFrom_list (l : List S103) : ∀ (t : List S103) (i : Nat), l.drop (i + 1) = t → ackFrom l (i + 1) t.length = ackB (rd_T103 l (i : Int)).f0 t := by
  intro t
  induction t with
  | nil => intro i _; rfl
  | cons s t ih =>
    intro i h
    obtain ⟨e1, e2, _⟩ := rd_drop l (i + 1) h
    rw [List.length_cons, ackFrom, if_pos (by omega), show i + 1 - 1 = i from rfl, ih (i + 1) e2, e1]
    rfl
theorem ackFrom_cons (s : S103) (t : List S103) : ackFrom (s :: t) 0 (s :: t).length = vbytes (s.f1 - s.f0) ++ ackB s.f0 t := by
  rw [List.length_cons, ackFrom, if_neg (by omega), ackFrom_list (s :: t) t 0 rfl]
  rfl
theorem okB_iff (l : List S103) : ∀ (t : List S103) (i : Nat), l.drop (i + 1) = t → ((∀ j, i < j → j < l.length → okAt l j) ↔ okB (rd_T103 l (i : Int)).f0 t) := by
  intro t
  induction t with
  | nil =>
    intro i h
    have : l.length ≤ i + 1 := by rcases Nat.lt_or_ge (i + 1) l.length with q | q
                                  · rw [List.drop_eq_getElem_cons q] at h; cases h
                                  · exact q
    exact ⟨fun _ => trivial, fun _ j h1 h2 => by omega⟩
  | cons s t ih =>
    intro i h
    obtain ⟨e1, e2, e3⟩ := rd_drop l (i + 1) h
    have hi := ih (i + 1) e2
    rw [e1] at hi
    constructor
    · intro hh
      have a := hh (i + 1) (by omega) e3
      have b := a.2.2.2 (by omega)
      rw [show i + 1 - 1 = i from rfl] at b
      unfold okAt at a
      rw [e1] at a b
      exact ⟨a.1, a.2.1, a.2.2.1, b, hi.1 (fun j h1 h2 => hh j (by omega) h2)⟩
    · rintro ⟨a1, a2, a3, a4, a5⟩ j h1 h2
      rcases Nat.lt_or_ge (i + 1) j with q | q
      · exact hi.2 a5 j q h2
      · obtain rfl : j = i + 1 := by omega
        unfold okAt
        rw [e1, show i + 1 - 1 = i from rfl]
        exact ⟨a1, a2, a3, fun _ => a4⟩
theorem spansOK_cons (s : S103) (t : List S103) : spansOK (s :: t) ↔ (0 ≤ s.f0 ∧ s.f0 ≤ s.f1 ∧ s.f1 ≤ 4611686018427387903) ∧ okB s.f0 t ∧ t.length < 32 := by
  have h := okB_iff (s :: t) t 0 rfl
  have e : rd_T103 (s :: t) ((0 : Nat) : Int) = s := rfl
  rw [e] at h
  unfold spansOK
  constructor
  · rintro ⟨a, _, c⟩
    have a0 := a 0 (by simp)
    unfold okAt at a0
    rw [e] at a0
    exact ⟨⟨a0.1, a0.2.1, a0.2.2.1⟩, h.1 (fun j _ hj => a j hj), by simp at c; omega⟩
  · rintro ⟨a, b, c⟩
    refine ⟨fun j hj => ?_, by simp, by simp; omega⟩
    rcases Nat.eq_zero_or_pos j with rfl | q
    · unfold okAt; rw [e]; exact ⟨a.1, a.2.1, a.2.2, fun q => by omega⟩
    · exact h.2 b j q hj
def ackW (s : S103) (t : List S103) : List Int := vbytes s.f1 ++ vbytes (t.length : Int) ++ (vbytes (s.f1 - s.f0) ++ ackB s.f0 t)
theorem fb_ack (a1 a3 a5 : Int) (l4 : List Int) (s : S103) (t : List S103) : fbytes 2 a1 (s :: t) a3 l4 a5 = 2 :: ackW s t := by
  unfold fbytes ackW
  rw [if_neg (by decide), if_pos rfl, ackFrom_cons]
  have e : (((s :: t).length : Nat) : Int) - 1 = (t.length : Int) := by simp
  rw [e]
  have e2 : rd_T103 (s :: t) 0 = s := rfl
  rw [e2]
  simp
theorem ackR_inv {l r : List Int} {S : List S103} (hB : Bytes l) (h : ackR l = some (S, r)) : ∃ s t, S = s :: t ∧ l = ackW s t ++ r ∧ spansOK (s :: t) := by
  unfold ackR at h
  obtain ⟨⟨a, l1⟩, ha, h⟩ := Option.bind_eq_some_iff.1 h
  obtain ⟨⟨m, l2⟩, hm, h⟩ := Option.bind_eq_some_iff.1 h
  obtain ⟨a0, a1, e1⟩ := rnum_inv hB ha
  have hB1 : Bytes l1 := fun x hx => hB x (by rw [e1]; simp [hx])
  obtain ⟨m0, m1, e2⟩ := rnum_inv hB1 hm
  have hB2 : Bytes l2 := fun x hx => hB1 x (by rw [e2]; simp [hx])
  simp only [] at h
  split at h
  · rename_i m32
    obtain ⟨sp, hs, h⟩ := Option.bind_eq_some_iff.1 h
    obtain ⟨⟨t, r'⟩, ht, h⟩ := Option.map_eq_some_iff.1 h
    injection h with h1 h2
    subst h1 h2
    obtain ⟨n, n0, n1, n2, n3, e3⟩ := spanF_inv hB2 hs
    have hB3 : Bytes sp.2 := fun x hx => hB2 x (by rw [e3]; simp [hx])
    rw [n3] at ht
    have q := ackF_inv _ _ _ _ _ hB3 (by simp only []; omega) ht
    refine ⟨sp.1, t, rfl, ?_, (spansOK_cons _ _).2 ?_⟩
    · unfold ackW
      rw [n3]
      simp only []
      have x : ((t.length : Nat) : Int) = m := by rw [q.1]; omega
      rw [x, show a - (a - n) = n from by omega]
      simp only [List.append_assoc, ← q.2.2, ← e3, ← e2, ← e1]
    · rw [n3]
      exact ⟨⟨by simp only []; omega, by simp only []; omega, by simp only []; omega⟩, q.2.1, by rw [q.1]; omega⟩
  · cases h
set_option maxHeartbeats 1000000 in
theorem next_inv {l r : List Int} {f : S58} (hB : Bytes l) (h : next l = some (f, r)) : fr58 f ∧ l = fb58 f ++ r ∧ (f.f0 = 0 → r.head? ≠ some 0) := by
  match l, h with
  | [], h => cases h
  | k :: t, h =>
    rw [next] at h
    obtain ⟨⟨g, q⟩, hb, h⟩ := Option.bind_eq_some_iff.1 h
    simp only [] at h
    split at h
    rotate_left
    · cases h
    rename_i hf
    injection h with h
    injection h with h1 h2
    subst h1 h2
    refine ⟨hf, ?_⟩
    have hBt : Bytes t := fun x hx => hB x (by simp [hx])
    unfold body at hb
    unfold fb58
    by_cases h0 : k = 0
    · rw [if_pos h0] at hb
      injection hb with hb
      injection hb with e1 e2
      subst e1 e2
      have a := padF_inv t
      refine ⟨?_, fun _ => a.2⟩
      unfold fbytes
      rw [if_pos rfl]
      simp only []
      rw [show (((padF t).1 : Int) + 1).toNat = (padF t).1 + 1 from by omega, List.replicate_succ, List.cons_append, ← a.1, h0]
    rw [if_neg h0] at hb
    by_cases h1 : k = 1
    · rw [if_pos h1] at hb
      injection hb with hb
      injection hb with e1 e2
      subst e1 e2
      exact ⟨by rw [h1]; rfl, fun e => by cases e⟩
    rw [if_neg h1] at hb
    by_cases h30 : k = 30
    · rw [if_pos h30] at hb
      injection hb with hb
      injection hb with e1 e2
      subst e1 e2
      exact ⟨by rw [h30]; rfl, fun e => by cases e⟩
    rw [if_neg h30] at hb
    by_cases h2 : k = 2
    · rw [if_pos h2] at hb
      obtain ⟨⟨S, q'⟩, ha, hb⟩ := Option.map_eq_some_iff.1 hb
      injection hb with e1 e2
      subst e1 e2
      obtain ⟨s, u, rfl, e, _⟩ := ackR_inv hBt ha
      exact ⟨by rw [h2, fb_ack, e]; rfl, fun e => by cases e⟩
    rw [if_neg h2] at hb
    by_cases h6 : k = 6
    · rw [if_pos h6] at hb
      obtain ⟨⟨a, l1⟩, ha, hb⟩ := Option.bind_eq_some_iff.1 hb
      obtain ⟨⟨n, l3⟩, hn, hb⟩ := Option.bind_eq_some_iff.1 hb
      obtain ⟨⟨d, q'⟩, hd, hb⟩ := Option.map_eq_some_iff.1 hb
      injection hb with e1 e2
      subst e1 e2
      obtain ⟨a0, a1, x1⟩ := rnum_inv hBt ha
      have hB1 : Bytes l1 := fun x hx => hBt x (by rw [x1]; simp [hx])
      obtain ⟨n0, n1, x2⟩ := rnum_inv hB1 hn
      obtain ⟨x3, x4⟩ := rbyt_inv n0 hd
      simp only [] at x3 x4
      refine ⟨?_, fun e => by cases e⟩
      dsimp only
      unfold fbytes
      rw [if_neg (by decide), if_neg (by decide), if_pos rfl]
      rw [x4, h6, x1, x2, x3]
      simp
    rw [if_neg h6] at hb
    by_cases h7 : k = 7
    · rw [if_pos h7] at hb
      obtain ⟨⟨a, l1⟩, ha, hb⟩ := Option.map_eq_some_iff.1 hb
      injection hb with e1 e2
      subst e1 e2
      obtain ⟨a0, a1, x1⟩ := rtrm_inv hBt ha
      refine ⟨?_, fun e => by cases e⟩
      dsimp only
      unfold fbytes
      rw [if_neg (by decide), if_neg (by decide), if_neg (by decide), if_pos rfl]
      rw [h7, x1]
      simp
    rw [if_neg h7] at hb
    by_cases h8 : k = 8
    · rw [if_pos h8] at hb
      obtain ⟨⟨c, l1⟩, hc, hb⟩ := Option.bind_eq_some_iff.1 hb
      obtain ⟨⟨a, l3⟩, ha, hb⟩ := Option.map_eq_some_iff.1 hb
      injection hb with e1 e2
      subst e1 e2
      obtain ⟨c0, c1, x1⟩ := rnum_inv hBt hc
      have hB1 : Bytes l1 := fun x hx => hBt x (by rw [x1]; simp [hx])
      obtain ⟨a0, a1, x2⟩ := rtrm_inv hB1 ha
      refine ⟨?_, fun e => by cases e⟩
      dsimp only
      unfold fbytes
      rw [if_neg (by decide), if_neg (by decide), if_neg (by decide), if_neg (by decide), if_pos rfl]
      rw [h8, x1, x2]
      simp
    rw [if_neg h8] at hb
    by_cases h28 : k = 28
    · rw [if_pos h28] at hb
      obtain ⟨⟨c, l1⟩, hc, hb⟩ := Option.map_eq_some_iff.1 hb
      injection hb with e1 e2
      subst e1 e2
      obtain ⟨c0, c1, x1⟩ := rnum_inv hBt hc
      refine ⟨?_, fun e => by cases e⟩
      dsimp only
      unfold fbytes
      rw [if_neg (by decide), if_neg (by decide), if_neg (by decide), if_neg (by decide), if_neg (by decide), if_pos rfl]
      rw [h28, x1]
      simp
    rw [if_neg h28] at hb
    cases hb
def noAdj : List S58 → Prop
  | [] => True
  | f :: t => (f.f0 = 0 → ∀ g, t.head? = some g → g.f0 ≠ 0) ∧ noAdj t
def wrt (L : List S58) : List Int := (L.map fb58).flatten
theorem fb_head (f : S58) (hf : fr58 f) : ∃ t, fb58 f = f.f0 :: t := by
  obtain ⟨a0, a1, l2, a3, l4, a5⟩ := f
  unfold fr58 fright at hf
  unfold fb58 fbytes
  simp only [] at hf ⊢
  by_cases h0 : a0 = 0
  · obtain ⟨n, rfl⟩ : ∃ n : Nat, a1 = (n : Int) + 1 := ⟨(a1 - 1).toNat, by omega⟩
    rw [if_pos h0, show ((n : Int) + 1).toNat = n + 1 from by omega, List.replicate_succ, h0]
    exact ⟨_, rfl⟩
  rw [if_neg h0]
  by_cases h2 : a0 = 2
  · rw [if_pos h2, h2]; exact ⟨_, rfl⟩
  rw [if_neg h2]
  by_cases h6 : a0 = 6
  · rw [if_pos h6, h6]; exact ⟨_, rfl⟩
  rw [if_neg h6]
  by_cases h7 : a0 = 7
  · rw [if_pos h7, h7]; exact ⟨_, rfl⟩
  rw [if_neg h7]
  by_cases h8 : a0 = 8
  · rw [if_pos h8, h8]; exact ⟨_, rfl⟩
  rw [if_neg h8]
  by_cases h28 : a0 = 28
  · rw [if_pos h28, h28]; exact ⟨_, rfl⟩
  rw [if_neg h28]
  have : a0 % 256 = a0 := by omega
  rw [this]
  exact ⟨_, rfl⟩
theorem wrt_cons (f : S58) (t : List S58) : wrt (f :: t) = fb58 f ++ wrt t := by simp [wrt]
theorem wrt_head (L : List S58) (hL : ∀ f ∈ L, fr58 f) : (wrt L).head? = L.head?.map (·.f0) := by
  cases L with
  | nil => rfl
  | cons f t =>
    obtain ⟨u, e⟩ := fb_head f (hL f (by simp))
    rw [wrt_cons, e]
    rfl
theorem wrt_len (L : List S58) (hL : ∀ f ∈ L, fr58 f) : L.length ≤ (wrt L).length := by
  induction L with
  | nil => simp
  | cons f t ih =>
    obtain ⟨u, e⟩ := fb_head f (hL f (by simp))
    have := ih (fun g hg => hL g (by simp [hg]))
    rw [wrt_cons, e]
    simp
    omega
theorem frames_inv : ∀ (n : Nat) (l : List Int) (L : List S58), Bytes l → frames n l = some L → (∀ f ∈ L, fr58 f) ∧ noAdj L ∧ l = wrt L := by
  intro n
  induction n with
  | zero => intro l L _ h; cases h
  | succ n ih =>
    intro l L hB h
    match l, h with
    | [], h => injection h with h; subst h; exact ⟨fun f hf => by simp at hf, trivial, rfl⟩
    | k :: t, h =>
      rw [frames] at h
      obtain ⟨⟨f, r⟩, hx, h⟩ := Option.bind_eq_some_iff.1 h
      obtain ⟨T, hT, h⟩ := Option.map_eq_some_iff.1 h
      subst h
      obtain ⟨hf, e, hz⟩ := next_inv hB hx
      have hBr : Bytes r := fun x hx => hB x (by rw [e]; simp [hx])
      obtain ⟨h1, h2, h3⟩ := ih r T hBr hT
      refine ⟨fun g hg => ?_, ⟨fun h0 g hg hg0 => ?_, h2⟩, by rw [wrt_cons, ← h3]; exact e⟩
      · rcases List.mem_cons.1 hg with rfl | q
        · exact hf
        · exact h1 g q
      · refine hz h0 ?_
        rw [h3, wrt_head T h1, hg]
        simp [hg0]
end Go.Proofs.YtbcleckapamicaaDoor.FdP
namespace Go.Proofs.YtbcleckapamicaaDoor.FdQ
open Go.RowKit Go.Proofs.YtbcleckapamicaaDoorW.PrintWords Go.Proofs.YtbcleckapamicaaDoorW.PrintLast Go.Proofs.YtbcleckapamicaaDoorW.PrintMore Go.Proofs.YtbcleckapamicaaDoor.QFr Go.Proofs.YtbcleckapamicaaDoor.Vn Go.Proofs.YtbcleckapamicaaDoor.FrP Go.Proofs.YtbcleckapamicaaDoor.FdP
open Go.Proofs.YtbcleckapamicaaDoor.Gf (tbytes)
open Go.Proofs.YtbcleckapamicaaDoor.Fd (num4 rnum rbyt rtrm padF gapF spanF ackF ackR body fr58 next frames fread frame_Read.f body_len)
set_option linter.unusedVariables false
set_option linter.unusedSimpArgs false
theorem read_f (l : List Int) (hl : l.length ≤ 100000) (hB : Bytes l) : frame_Read.f l = some (fread l) := if_pos ⟨hl, hB⟩
theorem fread_cases (l : List Int) : (∃ L, fread l = (L, 0) ∧ l.length ≤ 1200 ∧ l ≠ [] ∧ frames (l.length + 1) l = some L) ∨ (∃ e, fread l = ([], e) ∧ e ≠ 0) := by
  unfold fread
  by_cases h1 : 1200 < l.length
  · rw [if_pos h1]; exact .inr ⟨4, rfl, by decide⟩
  rw [if_neg h1]
  by_cases h2 : l = []
  · rw [if_pos h2]; exact .inr ⟨3, rfl, by decide⟩
  rw [if_neg h2]
  cases h3 : frames (l.length + 1) l with
  | none => exact .inr ⟨3, rfl, by decide⟩
  | some L => exact .inl ⟨L, rfl, by omega, h2, rfl⟩
def GoodL (L : List S58) : Prop := L ≠ [] ∧ (∀ f ∈ L, fr58 f) ∧ noAdj L ∧ (wrt L).length ≤ 1200
theorem fread_inv {l : List Int} {L : List S58} (hB : Bytes l) (h : fread l = (L, 0)) : GoodL L ∧ l = wrt L := by
  rcases fread_cases l with ⟨L', h1, h2, h3, h4⟩ | ⟨e, h1, h2⟩
  · rw [h1] at h
    injection h with h _
    subst h
    obtain ⟨a, b, c⟩ := frames_inv _ _ _ hB h4
    exact ⟨⟨fun e => h3 (by rw [c, e]; rfl), a, b, by rw [← c]; exact h2⟩, c⟩
  · rw [h1] at h
    injection h with _ h
    exact absurd h h2
theorem rd58 (L : List S58) (i : Nat) (h : i < L.length) : rd_T58 L (i : Int) = L[i] := by
  simp [rd_T58, List.getD_eq_getElem?_getD, List.getElem?_eq_getElem h]
def okF (L : List S58) (j : Nat) : Prop := fr58 (rd_T58 L (j : Int)) ∧ (0 < j → ¬ ((rd_T58 L (j : Int)).f0 = 0 ∧ (rd_T58 L ((j - 1 : Nat) : Int)).f0 = 0))
theorem noAdj_of : ∀ (L : List S58), (∀ j, 0 < j → j < L.length → ¬ ((rd_T58 L (j : Int)).f0 = 0 ∧ (rd_T58 L ((j - 1 : Nat) : Int)).f0 = 0)) → noAdj L := by
  intro L
  induction L with
  | nil => intro _; trivial
  | cons f t ih =>
    intro h
    refine ⟨fun h0 g hg hg0 => ?_, ih (fun j hj hl q => ?_)⟩
    · cases t with
      | nil => cases hg
      | cons u t =>
        injection hg with hg
        subst hg
        refine h 1 (by decide) (by simp) ⟨hg0, ?_⟩
        exact h0
    · have e1 : rd_T58 (f :: t) ((j + 1 : Nat) : Int) = rd_T58 t (j : Int) := by
        rw [rd58 _ _ (by simp; omega), rd58 _ _ hl]; rfl
      have e2 : rd_T58 (f :: t) ((j + 1 - 1 : Nat) : Int) = rd_T58 t ((j - 1 : Nat) : Int) := by
        obtain ⟨m, rfl⟩ : ∃ m, j = m + 1 := ⟨j - 1, by omega⟩
        rw [rd58 _ _ (by simp; omega), rd58 _ _ (by omega)]; rfl
      exact h (j + 1) (by omega) (by simp; omega) (by rw [e1, e2]; exact q)
theorem noAdj_at : ∀ (L : List S58), noAdj L → ∀ j, 0 < j → j < L.length → ¬ ((rd_T58 L (j : Int)).f0 = 0 ∧ (rd_T58 L ((j - 1 : Nat) : Int)).f0 = 0) := by
  intro L
  induction L with
  | nil => intro _ j _ hl; simp at hl
  | cons f t ih =>
    intro h j hj hl q
    obtain ⟨m, rfl⟩ : ∃ m, j = m + 1 := ⟨j - 1, by omega⟩
    simp only [List.length_cons] at hl
    have e1 : rd_T58 (f :: t) ((m + 1 : Nat) : Int) = rd_T58 t (m : Int) := by
      rw [rd58 _ _ (by simp; omega), rd58 _ _ (by omega)]; rfl
    have e2 : rd_T58 (f :: t) ((m + 1 - 1 : Nat) : Int) = rd_T58 (f :: t) (m : Int) := rfl
    rw [e1, e2] at q
    rcases Nat.eq_zero_or_pos m with rfl | hm
    · cases t with
      | nil => simp at hl
      | cons u t => exact h.1 q.2 u rfl q.1
    · refine ih h.2 m hm (by omega) ⟨q.1, ?_⟩
      obtain ⟨p, rfl⟩ : ∃ p, m = p + 1 := ⟨m - 1, by omega⟩
      have e3 : rd_T58 (f :: t) ((p + 1 : Nat) : Int) = rd_T58 t (p : Int) := by
        rw [rd58 _ _ (by simp; omega), rd58 _ _ (by omega)]; rfl
      rw [e3] at q
      exact q.2
theorem right_58 (f : S58) (hl : f.f2.length ≤ 100) (k : Nat) (hk : 200 < k) : ∃ b, frame_Right.f k f.f0 f.f1 f.f2 f.f3 f.f4 f.f5 = some b ∧ (b = true ↔ fr58 f) := right_f _ _ _ _ _ _ hl k hk
theorem write58_l0 (L : List S58) (hn : L.length ≤ 2000) (hs : ∀ j, j < L.length → (rd_T58 L ((j : Nat) : Int)).f2.length ≤ 100) : ∀ (d i k : Nat), i + d = L.length → d + 4000 < k →
    (frame_Write.l0 k L L (L.length : Int) (i : Int) = some (([] : List Int), 1) ∧ ¬ (∀ j, i ≤ j → j < L.length → okF L j)) ∨
    ((∀ j, i ≤ j → j < L.length → okF L j) ∧ frame_Write.l0 k L L (L.length : Int) (i : Int) = frame_Write.l1 (k - d - 1) [] L (L.length : Int) 0) := by
  intro d
  induction d with
  | zero =>
    intro i k hi hk
    obtain ⟨k, rfl⟩ : ∃ m, k = m + 1 := ⟨k - 1, by omega⟩
    right
    refine ⟨fun j h1 h2 => by omega, ?_⟩
    simp only [frame_Write.l0]
    rw [if_neg (by omega)]
    simp
  | succ d ih =>
    intro i k hi hk
    obtain ⟨k, rfl⟩ : ∃ m, k = m + 1 := ⟨k - 1, by omega⟩
    have hi' : i < L.length := by omega
    obtain ⟨b, hb, hbi⟩ := right_58 (rd_T58 L (i : Int)) (hs i hi') k (by omega)
    have ih' := ih (i + 1) k (by omega) (by omega)
    have hk' : k + 1 - (d + 1) - 1 = k - d - 1 := by omega
    simp only [frame_Write.l0]
    simp only [if_pos (show (i : Int) < (L.length : Int) by omega), if_pos (show (0 : Int) ≤ (i : Int) by omega), hb, Option.bind_some, hk']
    have bad : ∀ (h : ¬ okF L i), (some (([] : List Int), (1 : Int)) = some (([] : List Int), 1) ∧ ¬ (∀ j, i ≤ j → j < L.length → okF L j)) := fun h => ⟨rfl, fun q => h (q i (Nat.le_refl _) hi')⟩
    have step : okF L i → (frame_Write.l0 k L L (L.length : Int) ((i + 1 : Nat) : Int) = some (([] : List Int), 1) ∧ ¬ (∀ j, i ≤ j → j < L.length → okF L j)) ∨ ((∀ j, i ≤ j → j < L.length → okF L j) ∧ frame_Write.l0 k L L (L.length : Int) ((i + 1 : Nat) : Int) = frame_Write.l1 (k - d - 1) [] L (L.length : Int) 0) := by
      intro ho
      rcases ih' with ⟨h1, h2⟩ | ⟨h1, h2⟩
      · exact .inl ⟨h1, fun q => h2 (fun j hj hl => q j (by omega) hl)⟩
      · refine .inr ⟨fun j hj1 hj2 => ?_, h2⟩
        rcases Nat.lt_or_ge i j with hij | hij
        · exact h1 j (by omega) hj2
        · obtain rfl : j = i := by omega
          exact ho
    have w1' : wrap64 ((i : Int) + 1) = ((i + 1 : Nat) : Int) := w1 i (by omega)
    by_cases hbt : b = true
    · simp only [if_pos hbt, w1']
      have hfr := hbi.1 hbt
      by_cases h0 : (i : Int) > 0
      · simp only [if_pos h0]
        by_cases hz : (rd_T58 L (i : Int)).f0 = 0
        · simp only [if_pos hz, wm1 i (show 0 < i by omega) (show i < 100000 by omega), if_pos (show (0 : Int) ≤ ((i - 1 : Nat) : Int) by omega), if_pos (show ((i - 1 : Nat) : Int) < (L.length : Int) by omega)]
          by_cases hz' : (rd_T58 L ((i - 1 : Nat) : Int)).f0 = 0
          · simp only [if_pos hz']
            exact .inl ⟨trivial, (bad (fun h => h.2 (by omega) ⟨hz, hz'⟩)).2⟩
          · simp only [if_neg hz']
            exact step ⟨hfr, fun _ q => hz' q.2⟩
        · simp only [if_neg hz]
          exact step ⟨hfr, fun _ q => hz q.1⟩
      · simp only [if_neg h0]
        exact step ⟨hfr, fun q => by omega⟩
    · simp only [if_neg hbt]
      exact .inl ⟨trivial, (bad (fun h => hbt (hbi.2 h.1))).2⟩
theorem drop58 (L : List S58) (i : Nat) (h : i < L.length) : wrt (L.drop i) = fb58 (rd_T58 L (i : Int)) ++ wrt (L.drop (i + 1)) := by
  rw [List.drop_eq_getElem_cons h, wrt_cons, rd58 L i h]
theorem write58_l1 (L : List S58) (hn : L.length ≤ 2000) (hs : ∀ j, j < L.length → fr58 (rd_T58 L ((j : Nat) : Int))) : ∀ (d i k : Nat) (x : List Int), i + d = L.length → d + 1300 < k → x.length ≤ 1200 →
    frame_Write.l1 k x L (L.length : Int) (i : Int) = some (FrP.told (x ++ wrt (L.drop i))) := by
  intro d
  induction d with
  | zero =>
    intro i k x hi hk hx
    obtain ⟨k, rfl⟩ : ∃ m, k = m + 1 := ⟨k - 1, by omega⟩
    simp only [frame_Write.l1]
    rw [if_neg (by omega), List.drop_of_length_le (by omega), show wrt [] = [] from rfl, List.append_nil]
    unfold FrP.told
    rw [if_neg (by omega)]
  | succ d ih =>
    intro i k x hi hk hx
    obtain ⟨k, rfl⟩ : ∃ m, k = m + 1 := ⟨k - 1, by omega⟩
    have hi' : i < L.length := by omega
    have hr := hs i hi'
    have hlen := fbytes_len _ _ _ _ _ _ hr
    simp only [frame_Write.l1]
    rw [if_pos (show (i : Int) < (L.length : Int) by omega), if_pos (show (0 : Int) ≤ (i : Int) by omega), if_pos (show (i : Int) < (L.length : Int) by omega), bytes_frame _ _ _ _ _ _ hr k (by omega), drop58 L i hi']
    simp only [Option.bind_some]
    rw [if_pos (show x.length + (fbytes (rd_T58 L (i : Int)).f0 (rd_T58 L (i : Int)).f1 (rd_T58 L (i : Int)).f2 (rd_T58 L (i : Int)).f3 (rd_T58 L (i : Int)).f4 (rd_T58 L (i : Int)).f5).length < 140737488355328 by omega), w1 i (by omega)]
    by_cases hq : ((x ++ fb58 (rd_T58 L (i : Int))).length : Int) > 1200
    · have hq' : ((x ++ (fb58 (rd_T58 L (i : Int)) ++ wrt (L.drop (i + 1)))).length : Int) > 1200 := by simp only [List.length_append] at hq ⊢; omega
      unfold FrP.told
      rw [if_pos hq']
      unfold fb58 at hq
      rw [if_pos hq]
    · have := ih (i + 1) k (x ++ fb58 (rd_T58 L (i : Int))) (by omega) (by omega) (by omega)
      rw [List.append_assoc] at this
      unfold fb58 at hq this ⊢
      rw [if_neg hq]
      exact this
theorem write58 (L : List S58) (hn : L.length ≤ 2000) (hs : ∀ j, j < L.length → (rd_T58 L ((j : Nat) : Int)).f2.length ≤ 100) (k : Nat) (hk : 8000 < k) :
    ∃ x e, frame_Write.f k L = some (x, e) ∧ ((e ≠ 0 ∧ x = [] ∧ ¬ GoodL L) ∨ (e = 0 ∧ GoodL L ∧ x = wrt L)) := by
  unfold frame_Write.f
  by_cases h0 : (L.length : Int) = 0
  · rw [if_pos h0]
    refine ⟨_, _, rfl, .inl ⟨by decide, rfl, fun h => h.1 (List.length_eq_zero_iff.1 (by omega))⟩⟩
  rw [if_neg h0]
  have all : (∀ j, 0 ≤ j → j < L.length → okF L j) ↔ ((∀ f ∈ L, fr58 f) ∧ noAdj L) := by
    constructor
    · intro h
      refine ⟨fun f hf => ?_, noAdj_of L (fun j hj hl => (h j (by omega) hl).2 hj)⟩
      obtain ⟨i, hi, rfl⟩ := List.getElem_of_mem hf
      rw [← rd58 L i hi]
      exact (h i (by omega) hi).1
    · rintro ⟨h1, h2⟩ j _ hl
      exact ⟨by rw [rd58 L j hl]; exact h1 _ (List.getElem_mem hl), fun hj => noAdj_at L h2 j hj hl⟩
  rcases write58_l0 L hn hs L.length 0 k (by omega) (by omega) with ⟨h1, h2⟩ | ⟨h1, h2⟩
  · exact ⟨_, _, h1, .inl ⟨by decide, rfl, fun h => h2 (all.2 ⟨h.2.1, h.2.2.1⟩)⟩⟩
  · have a := write58_l1 L hn (fun j hj => (h1 j (by omega) hj).1) L.length 0 (k - L.length - 1) [] (by omega) (by omega) (by simp)
    have e := h2.trans a
    rw [List.drop_zero, List.nil_append] at e
    have hh := all.1 h1
    refine ⟨(FrP.told (wrt L)).1, (FrP.told (wrt L)).2, e, ?_⟩
    unfold FrP.told
    by_cases hq : ((wrt L).length : Int) > 1200
    · rw [if_pos hq]; exact .inl ⟨by decide, rfl, fun h => by have := h.2.2.2; omega⟩
    · rw [if_neg hq]; exact .inr ⟨rfl, ⟨fun e => h0 (by rw [e]; rfl), hh.1, hh.2, by omega⟩, rfl⟩
theorem spans2 : spansOK [⟨7, 7⟩, ⟨3, 5⟩] := by
  refine ⟨fun j hj => ?_, by simp, by simp⟩
  have : j = 0 ∨ j = 1 := by simp at hj; omega
  rcases this with rfl | rfl
  · simp [okAt, rd_T103]
  · simp [okAt, rd_T103]
theorem awake06 (k : Nat) (hk : 9000 < k) : shibbolethlaw06_awake.f k = some true := by
  have hg : GoodL [(⟨2, 0, [⟨7, 7⟩, ⟨3, 5⟩], 0, [], 0⟩ : S58)] := by
    refine ⟨by simp, fun f hf => ?_, ⟨fun h => absurd h (by decide), trivial⟩, by simp [wrt, fb58, fbytes, ackFrom, vbytes, rd_T103]⟩
    simp at hf
    subst hf
    exact .inr (.inr (.inl ⟨rfl, spans2, rfl, rfl, rfl, rfl⟩))
  obtain ⟨x, e, h1, h2⟩ := write58 [(⟨2, 0, [⟨7, 7⟩, ⟨3, 5⟩], 0, [], 0⟩ : S58)] (by simp) (fun j hj => by
    have : j = 0 := by simp at hj; omega
    subst this; simp [rd_T58]) k (by omega)
  rcases h2 with ⟨_, _, h⟩ | ⟨rfl, _, rfl⟩
  · exact absurd hg h
  · have ht : wrt [(⟨2, 0, [⟨7, 7⟩, ⟨3, 5⟩], 0, [], 0⟩ : S58)] = [2, 7, 1, 0, 0, 2] := by
      simp [wrt, fb58, fbytes, ackFrom, vbytes, rd_T103]
    rw [ht] at h1
    unfold shibbolethlaw06_awake.f
    rw [h1]
    simp only [Option.bind_some, if_true]
    rw [fsame_f _ (by simp) _ (by simp; omega)]
    rfl
end Go.Proofs.YtbcleckapamicaaDoor.FdQ
namespace Go.Proofs.YtbcleckapamicaaDoor.Pure
open Go.RowKit Go.Proofs.YtbcleckapamicaaDoor.QFr Go.Proofs.YtbcleckapamicaaDoor.QFd Go.Proofs.YtbcleckapamicaaDoor.QFx Go.Proofs.YtbcleckapamicaaDoor.Vn Go.Proofs.YtbcleckapamicaaDoor.FrP Go.Proofs.YtbcleckapamicaaDoor.FdP Go.Proofs.YtbcleckapamicaaDoor.FdQ Go.Proofs.YtbcleckapamicaaDoorW.PrintWords
open Go.Proofs.YtbcleckapamicaaDoor.Fd (rnum rbyt rtrm padF gapF spanF ackF ackR body fr58 next frames fread frame_Read.f)
open Go.Proofs.YtbcleckapamicaaDoor.Rf (icvF vc cvF_icvF shibbolethref06_Read.f)
set_option linter.unusedVariables false
set_option linter.unusedSimpArgs false
theorem told_l (s : List S102) (hl : s.length ≤ 100) (c0 c1 c3 c5 d0 d1 d3 d5 : Int) (c4 d4 : List Int) : ∀ (d i k : Nat), i + d = s.length → d < k →
    shibbolethlaw06_told.l0 k (i : Int) c0 c1 (cv s) c3 c4 c5 d0 d1 s d3 d4 d5 = some true := by
  intro d
  induction d with
  | zero =>
    intro i k hi hk
    obtain ⟨k, rfl⟩ : ∃ m, k = m + 1 := ⟨k - 1, by omega⟩
    simp only [shibbolethlaw06_told.l0]
    rw [if_neg (by omega)]
  | succ d ih =>
    intro i k hi hk
    obtain ⟨k, rfl⟩ : ∃ m, k = m + 1 := ⟨k - 1, by omega⟩
    have hc := cv_len s
    have e := rd_cv s i (by omega)
    simp only [shibbolethlaw06_told.l0]
    rw [if_pos (by omega), if_pos (by omega), if_pos (by omega), e, if_pos rfl, if_pos rfl, w1 i (by omega)]
    exact ih (i + 1) k (by omega) (by omega)
theorem told_f (x : S62) (hl : x.f2.length ≤ 100) (h4 : x.f4.length ≤ 2000) (k : Nat) (hk : 3000 < k) : shibbolethlaw06_told.f k (cvF x).f0 (cvF x).f1 (cvF x).f2 (cvF x).f3 (cvF x).f4 (cvF x).f5 x.f0 x.f1 x.f2 x.f3 x.f4 x.f5 = some true := by
  obtain ⟨k, rfl⟩ : ∃ m, k = m + 1 := ⟨k - 1, by omega⟩
  unfold shibbolethlaw06_told.f
  have hc := cv_len x.f2
  simp only [cvF, if_true, fsame_f x.f4 (by omega) (k + 1) (by omega), Option.bind_some, hc, bne_self_eq_false]
  rw [shibbolethlaw06_told.j0, if_neg (by decide)]
  exact told_l x.f2 hl _ _ _ _ _ _ _ _ _ _ x.f2.length 0 k (by omega) (by omega)
theorem rd_imap (L : List S58) (i : Nat) (h : i < L.length) : rd_T62 (L.map icvF) (i : Int) = icvF (rd_T58 L (i : Int)) := by
  rw [rd58 L i h]
  simp [rd_T62, List.getD_eq_getElem?_getD, h]
theorem told58 (x : S58) (hl : x.f2.length ≤ 100) (h4 : x.f4.length ≤ 2000) (k : Nat) (hk : 3000 < k) : shibbolethlaw06_told.f k x.f0 x.f1 x.f2 x.f3 x.f4 x.f5 (icvF x).f0 (icvF x).f1 (icvF x).f2 (icvF x).f3 (icvF x).f4 (icvF x).f5 = some true := by
  have h := told_f (icvF x) (by show (vc x.f2).length ≤ 100; unfold vc; simpa using hl) h4 k hk
  rw [cvF_icvF] at h
  exact h
theorem fr_size (f : S58) (h : fr58 f) : f.f2.length ≤ 100 ∧ f.f4.length ≤ 2000 := by
  rcases h with h | h | h | h | h | h | h
  · omega
  · omega
  · have := h.2.1.2.2; omega
  · omega
  · omega
  · omega
  · omega
theorem reads_l (L : List S58) (hn : L.length ≤ 1200) (hs : ∀ j, j < L.length → fr58 (rd_T58 L ((j : Nat) : Int))) : ∀ (d i k : Nat), i + d = L.length → d + 9100 < k →
    shibbolethlaw06_FrameReads.l0 k L (L.map icvF) (i : Int) = some true := by
  intro d
  induction d with
  | zero =>
    intro i k hi hk
    obtain ⟨k, rfl⟩ : ∃ m, k = m + 1 := ⟨k - 1, by omega⟩
    have hm : (L.map icvF).length = L.length := by simp
    simp only [shibbolethlaw06_FrameReads.l0]
    rw [if_neg (by omega), awake06 k (by omega)]
    rfl
  | succ d ih =>
    intro i k hi hk
    obtain ⟨k, rfl⟩ : ∃ m, k = m + 1 := ⟨k - 1, by omega⟩
    have hm : (L.map icvF).length = L.length := by simp
    have hi' : i < L.length := by omega
    have hq := fr_size _ (hs i hi')
    simp only [shibbolethlaw06_FrameReads.l0]
    rw [if_pos (by omega), if_pos (by omega), if_pos (by omega), rd_imap L i hi', told58 _ hq.1 hq.2 k (by omega)]
    simp only [Option.bind_some, if_true]
    rw [w1 i (by omega)]
    exact ih (i + 1) k (by omega) (by omega)
theorem FrameReads : frameReadsPrm.Pure := by
  intro l hl
  refine ⟨20000, ?_⟩
  unfold shibbolethlaw06_FrameReads.f
  by_cases hn : (l.length : Int) > 1300
  · rw [if_pos hn]
  rw [if_neg hn]
  have hB : Bytes l := VaP.bytes_of_wf hl.2
  simp only [Option.bind_some, List.nil_append, List.length_nil]
  rw [if_pos (by omega), read_f l (by omega) hB]
  have e2 : shibbolethref06_Read.f l = some ((fread l).1.map icvF, (fread l).2) := if_pos hB
  simp only [Option.bind_some]
  rw [e2]
  simp only [Option.bind_some, if_true, List.length_map, bne_self_eq_false]
  rw [shibbolethlaw06_FrameReads.j0, if_neg (by decide)]
  rcases fread_cases l with ⟨L, h, h1, h2, h3⟩ | ⟨e, h, he⟩
  · have hg := (fread_inv hB h).1
    rw [h]
    refine reads_l L ?_ (fun j hj => ?_) L.length 0 19999 (by omega) ?_
    · have h4 := wrt_len L hg.2.1; have := hg.2.2.2; omega
    · rw [rd58 L j hj]; exact hg.2.1 _ (List.getElem_mem hj)
    · have h4 := wrt_len L hg.2.1; have := hg.2.2.2; omega
  · rw [h]
    exact reads_l [] (by simp) (fun j hj => by simp at hj) 0 0 19999 rfl (by omega)
end Go.Proofs.YtbcleckapamicaaDoor.Pure
namespace Go.Proofs.YtbcleckapamicaaDoor.Tab
open Go.RowKit Go.Proofs.YtbcleckapamicaaDoor.Gv
set_option linter.unusedVariables false
def laid {H : Type} : List (String × DataW H) := [((Rows.frameReadsRow.named).getD 0 default, Rows.laid_math_bits_deBruijn32tab), ((Rows.frameReadsRow.named).getD 1 default, Rows.laid_math_bits_deBruijn64tab)]
theorem g64 : Tryd.prog.globalNamed ((Rows.frameReadsRow.named).getD 1 default) = some 1 := by kernel_rfl
theorem ty64 : (Tryd.prog.globals[1]?).map (·.type) = some 146 := by kernel_rfl
theorem of_laid {W : World} (h : laidMet Tryd.prog laid W) : TB W := by
  have h2 : laidMet Tryd.prog [((Rows.frameReadsRow.named).getD 1 default, Lib.tabData .u8 tab64)] W := h.tail
  have ht : Lib.TabIs Tryd.prog W ((Rows.frameReadsRow.named).getD 1 default) .u8 tab64 := Lib.tabIs_of_head g64 ty64 Tryd.underlying146 Tryd.underlying5 (by kernel_rfl) (by kernel_rfl) h2
  exact ⟨fun i hi => ht.cell g64 i hi⟩
def tab32 : List Int := [0, 1, 28, 2, 29, 14, 24, 3, 30, 22, 20, 15, 25, 17, 4, 8, 31, 27, 13, 23, 21, 19, 16, 7, 26, 12, 18, 6, 11, 5, 10, 9]
noncomputable def laidWorld (os : Os) : World :=
  let w0 := World.holding Tryd.prog os ⟨#[], #[], []⟩
  { w0 with heap := (w0.heap.modify 0 fun
      | .cells _ t frozen => .cells (tab32.map fun z => Value.int .u8 z).toArray t frozen
      | o => o).modify 1 fun
      | .cells _ t frozen => .cells (tab64.map fun z => Value.int .u8 z).toArray t frozen
      | o => o }
set_option maxRecDepth 100000 in
theorem laidWorld_met (os : Os) (args : Array Value) : laidMet Tryd.prog laid ((laidWorld os).forCall (fun _ _ => 0) ⟨#[], args, []⟩).memory :=
  laidMet_of_run' 8 (by kernel_rfl) (by kernel_rfl)
end Go.Proofs.YtbcleckapamicaaDoor.Tab
