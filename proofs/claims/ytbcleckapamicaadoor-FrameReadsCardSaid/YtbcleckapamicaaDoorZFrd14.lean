/- A part of the proof of the law FrameReads: Rf4. -/
import Derived.Test.YtbcleckapamicaaDoorZFrd13
import Derived.Test.YtbcleckapamicaaDoorZFrd12
namespace Go.Proofs.YtbcleckapamicaaDoor.Rf
open Go Go.RowKit Go.Proofs.YtbcleckapamicaaDoorW.PrintWords Go.Proofs.YtbcleckapamicaaDoorW.PrintLast Go.Proofs.YtbcleckapamicaaDoorW.PrintMore
open Go.Proofs.YtbcleckapamicaaDoor.QFr (S58 S103 k58 k103 S102 k102 k102_mkM S62 k62)
open Go.Proofs.YtbcleckapamicaaDoor.FrP (cv fright cvF)
open Go.Proofs.YtbcleckapamicaaDoor.Onl (Only)
open Go.Proofs.YtbcleckapamicaaDoor.Vn (vread vsize num)
open Go.Proofs.YtbcleckapamicaaDoor.Fd (rnum rbyt rtrm ackR next frames body padF fr58 next_rest fread own_grow own_set own_only R_only rnum_rng rbyt_one)
set_option linter.unusedVariables false
set_option linter.unusedSimpArgs false
theorem info62 : (Tryd.prog.info? 62).map (fun i => (i.zero, i.size, i.bytes)) = some (some (.agg #[.int .i64 0, .int .i64 0, .slice none 0 0, .int .i64 0, .slice none 0 0, .int .i64 0]), 6, 80) := by kernel_rfl
def Bk (w : World) (b : Nat) (cs : List Value) : Prop := w.heap[b]? = some (.cells cs.toArray 62 (0, 0))
theorem Bk.lt {w : World} {b : Nat} {cs : List Value} (h : Bk w b cs) : b < w.heap.size := (Array.getElem?_eq_some_iff.1 h).1
theorem Bk.cell {w : World} {b : Nat} {cs : List Value} (h : Bk w b cs) (j : Nat) (v : Value) (hj : cs[j]? = some v) : w.cell? ⟨b, j, none⟩ = some v := by
  unfold Bk at h
  simp [World.cell?, h, hj]
theorem Bk.frozen {w : World} {b : Nat} {cs : List Value} (h : Bk w b cs) (j : Nat) : w.frozen? ⟨b, j, none⟩ = false := by
  unfold Bk at h
  simp [World.frozen?, h]
theorem Bk.set {w : World} {b : Nat} {cs : List Value} (h : Bk w b cs) (j : Nat) (v : Value) : Bk (w.setCell ⟨b, j, none⟩ v) b (cs.set j v) := by
  unfold Bk at h ⊢
  rw [heap_setCell_same w b j cs.toArray 62 v h]
  simp
theorem Bk.only {w w' : World} {b : Nat} {cs : List Value} (h : Bk w b cs) {p : Nat → Prop} (ho : Only p w w') (hp : ¬ p b) : Bk w' b cs := (ho.block b h.lt hp).trans h
theorem Bk.new (w : World) (cs : List Value) : Bk (w.alloc (.cells cs.toArray 62)) w.heap.size cs := World.alloc_heap_new w _
theorem Rs.far {w0 w : World} {rb : Nat} {S : Option (List Int)} (h : Rs w0 w rb S) {a : Addr} (ha : a.block ≠ rb) (h0 : w0.heap.size ≤ a.block) (v : Value) : Rs w0 (w.setCell a v) rb S :=
  h.only ((Only.refl (fun k => k = a.block) w).setCell (ad := a) rfl v) (fun q => ha q.symm) (fun k q => by subst q; exact h0)
theorem Rs.lay (w0 w : World) (hb0 : Below w0.heap.size w0 w) (A : Option Addr) (c : Nat) (l : List Int) (hC : Kd.C (Kd.int .u8) w0 A l.length l) (hc : l.length ≤ c) (hl : l.length ≤ 100000) (hB : ∀ x ∈ l, 0 ≤ x ∧ x ≤ 255) :
    Rs w0 (w.alloc (.cells #[.slice A l.length c, .bool false] 132)) w.heap.size (some l) := by
  refine ⟨A, c, ?_, ?_, ?_, ?_, hb0.size, below_alloc hb0 _, hC, hc, hl, hB⟩
  · rw [World.cell?_alloc_at _ _ _ _ rfl]; rfl
  · rw [World.cell?_alloc_at _ _ _ _ rfl]; rfl
  · exact World.frozen?_alloc_at _ _ _ _ rfl
  · exact World.frozen?_alloc_at _ _ _ _ rfl
theorem bytes_of {w0 w : World} {rb : Nat} {S S' : Option (List Int)} {n : Int} {d : List Int} (h : Rs w0 w rb S) (h0 : 0 ≤ n) (e : bytS S n = (d, S')) :
    Calls Tryd.prog 81 #[.pointer (some ⟨rb, 0, none⟩), .int .i64 n] w fun en w' => ∃ v, en = .returned v ∧ Row0 w0 v d ∧ Rs w0 w' rb S' ∧ Only (fun k => k = rb) w w' := by
  have h1 := bytes_calls h n h0
  rw [e] at h1
  exact h1
theorem term_of {w0 w : World} {rb : Nat} {S S' : Option (List Int)} {n : Int} (h : Rs w0 w rb S) (e : trmS S = (n, S')) :
    Calls Tryd.prog 84 #[.pointer (some ⟨rb, 0, none⟩)] w fun en w' => en = .returned (.int .i64 n) ∧ Rs w0 w' rb S' ∧ Only (fun k => k = rb) w w' := by
  have h1 := term_calls h
  rw [e] at h1
  exact h1
theorem mark_out {w0 w : World} {rb : Nat} {A : Option Addr} {c : Nat} {l : List Int} {bad : Bool} (h : Rb w0 w rb A c l bad) (b : Bool) : Rs w0 (w.setCell ⟨rb, 1, none⟩ (.bool (!b))) rb (outS (some l) b) := by
  cases b with
  | true => exact ⟨_, _, h.mark false⟩
  | false => exact ⟨_, _, _, h.mark true⟩
theorem numS_rng {x : List Int} {S : Option (List Int)} {a n : Int} {S1 S2 : Option (List Int)} (hby : ∀ y ∈ x, 0 ≤ y ∧ y ≤ 255) (h1 : numS (some x) = (a, S1)) (h2 : numS S1 = (n, S2)) : 0 ≤ n := by
  cases S2 with
  | none => have := (numS_none h2).1; omega
  | some y =>
    obtain ⟨x1, rfl, p2⟩ := numS_some h2
    obtain ⟨x0, e, p1⟩ := numS_some h1
    injection e with e
    subst e
    exact (rnum_rng (fun y hy => hby y (Fd.rnum_sub p1 y hy)) p2).1
theorem own_ab {a b : World} {rb fb : Nat} (ho : Only (fun k => k = rb) a b) : Only (fun k => k = rb ∨ k = fb) a b := ho.imp (fun _ _ q => .inl q)
theorem R_keep3 {α : Type} {d : Kd α} {e base : Nat} {ok p : Nat → Prop} {W W' : World} {v : Value} {xs : List α} (h : d.R e W base ok v xs) (ho : Only p W W') (hp : ∀ k, p k → k < base ∨ ¬ ok k) : d.R e W' base ok v xs :=
  Kd.R_mono (Kd.R_move (Kd.R_bound h) (fun k hk => ho.block k hk.2.2.1 (fun q => by
    rcases hp k q with h1 | h1
    · exact absurd hk.2.1 (by omega)
    · exact h1 hk.1))) (fun _ hk => hk.1)
set_option maxHeartbeats 8000000 in
set_option maxRecDepth 100000 in
theorem read_short (w0 w : World) (hb0 : Below w0.heap.size w0 w) (A : Option Addr) (c : Nat) (l : List Int) (hC : Kd.C (Kd.int .u8) w0 A l.length l) (hc : l.length ≤ c) (hl : l.length ≤ 1200) (hB : ∀ x ∈ l, 0 ≤ x ∧ x ≤ 255) (hne : l ≠ []) :
    Calls Tryd.prog 55 #[.slice A l.length c] w (RefR w0 w l) := by
  have d0 : decide ((1200 : Int) < (l.length : Int)) = false := decide_eq_false (by omega)
  have d1 : decide (1200 < l.length) = false := decide_eq_false (by omega)
  have hpos : 0 < l.length := List.length_pos_iff.mpr hne
  have d2 : decide ((l.length : Int) = 0) = false := decide_eq_false (by omega)
  have d3 : ((l.length : Int) == 0) = false := by simpa using d2
  have d4 : (l.length == 0) = false := by simp; omega
  have d5 : ¬ l.length = 0 := by omega
  have HX1 := Rs.lay w0 w hb0 A c l hC hc (by omega) hB
  have HFR := Aside0.mk (fread_short hl hne)
  have HL := Aside0.mk hl
  have HB0 := Aside0.mk hb0.size
  have HBA := Aside0.mk (below_alloc (Below.refl w.heap.size w) (.cells #[.slice A l.length c, .bool false] 132))
  have HSZ : (w.alloc (.cells #[.slice A l.length c, .bool false] 132)).heap.size = w.heap.size + 1 := World.size_alloc _ _
  obtain ⟨res, hres⟩ : ∃ res, frames (l.length + 1) l = res := ⟨_, rfl⟩
  rw [hres] at HFR
  have HRES := Aside0.mk hres
  have HXA := Aside0.mk HX1
  clear hC hB hl hc hpos hres HX1 hb0
  go_enter Tryd.func55, Tryd.ntmps55
  go_upto_region 5 with (fail)
  have HX1 := HXA.out
  clear HXA d0 d1 d2 d3 d4 d5 hne
  generalize w.alloc (.cells #[.slice A l.length c, .bool false] 132) = w1 at *
  obtain ⟨rb, hrb⟩ : ∃ rb, w.heap.size = rb := ⟨_, rfl⟩
  rw [hrb] at HX1 HSZ ⊢
  have HRB := Aside0.mk hrb
  have HXA := Aside0.mk HX1
  have HS := Aside0.mk HSZ
  clear hrb HX1 HSZ
  go_loopg [5] (l.length + 1) (fun gg v5 wr => ∃ (S : Option (List Int)) (L : List S62), meas S ≤ gg ∧ Aside0 (S = none → res = none) ∧ Aside0 (∀ x, S = some x → ∃ f, x.length < f ∧ (frames f x).map (L.map cvF ++ ·) = res) ∧ Aside0 (Rs w0 wr rb S) ∧ Aside0 (Kd.R (kmx w0) 62 wr (rb + 1) (fun _ => True) v5 L) ∧ Aside0 (Below w.heap.size w wr) ∧ Aside0 (rb + 1 ≤ wr.heap.size) ∧ Aside0 (L.length + meas S ≤ l.length + 1))
  case atStart => exact ⟨some l, [], by simp [meas], ⟨fun q => (by cases q)⟩, ⟨fun x e => by injection e with e; subst e; exact ⟨l.length + 1, by omega, by rw [HRES.out]; cases res <;> simp⟩⟩, HXA, ⟨Kd.R_nil _ _ _ _ _⟩, HBA, ⟨by rw [HS.out]; exact Nat.le_refl _⟩, ⟨by simp [meas]⟩⟩
  case round =>
    obtain ⟨S, L, hg, HN, HF, HX, R, HBL, ZS, HLN⟩ := hrel
    have HG := Aside0.mk hg
    obtain ⟨Av, cv_, ev⟩ := Kd.R_slice R.out
    obtain ⟨nv, hnv⟩ : ∃ nv, L.length = nv := ⟨_, rfl⟩
    rw [hnv] at ev
    have HNV := Aside0.mk hnv
    clear hnv
    subst ev
    clear HXA HS HRES hg HBA
    cases S with
    | none =>
      obtain ⟨A2, c2, l2, hr⟩ := HX.out
      have c0 := hr.c0
      have c1 := hr.c1
      clear hr
      have hr0 : res = none := HN.out rfl
      have HR0 := Aside0.mk hr0
      clear hr0
      have fin : RefR w0 w l (.returned (.tuple #[.slice none 0 0, .int .i64 3])) wr := ⟨_, [], 3, rfl, Kd.R_nil _ _ _ _ _, HBL.out, by rw [HFR.out, HR0.out]; rfl⟩
      have FIN := Aside0.mk fin
      clear fin
      obtain ⟨n2, hn2⟩ : ∃ n2, l2.length = n2 := ⟨_, rfl⟩
      rw [hn2] at c0
      clear hn2
      by_cases q : (0 : Int) < (n2 : Int)
      · have q0 : decide ((0 : Int) < (n2 : Int)) = true := decide_eq_true q
        have q1 : decide (0 < n2) = true := decide_eq_true (by omega)
        go_wp2
        go_ret2
        exact FIN.out
      · have q0 : decide ((0 : Int) < (n2 : Int)) = false := decide_eq_false q
        have q1 : decide (0 < n2) = false := decide_eq_false (by omega)
        go_wp2
        go_ret2
        exact FIN.out
    | some x =>
      cases x with
      | nil =>
        obtain ⟨A2, c2, hr⟩ := HX.out
        have c0 : wr.cell? ⟨rb, 0, none⟩ = some (.slice A2 0 c2) := hr.c0
        have c1 := hr.c1
        clear hr
        have fin : RefR w0 w l (.returned (.tuple #[.slice Av nv cv_, .int .i64 0])) wr := by
          obtain ⟨f, hf, h1⟩ := HF.out [] rfl
          obtain ⟨g, rfl⟩ : ∃ g, f = g + 1 := ⟨f - 1, by omega⟩
          rw [frames, Option.map_some, List.append_nil] at h1
          have hRB := HRB.out
          exact ⟨_, L, 0, rfl, Kd.R_lower R.out (by omega), HBL.out, by rw [HFR.out, ← h1]⟩
        have FIN := Aside0.mk fin
        clear fin
        go_wp2
        go_ret2
        exact FIN.out
      | cons k t =>
        obtain ⟨A2, c2, hr⟩ := HX.out
        have c0 := hr.c0
        have c1 := hr.c1
        have hk := hr.by_ k (by simp)
        have hbt : ∀ y ∈ t, 0 ≤ y ∧ y ≤ 255 := fun y hy => hr.by_ y (by simp [hy])
        have HBT := Aside0.mk hbt
        have ek : wrap64 k = k := by unfold wrap64; omega
        have EB := Aside0.mk (show bytS (some (k :: t)) 1 = ([k], some t) by unfold bytS; rw [Option.bind_some, rbyt_one])
        obtain ⟨f, hf, hfr⟩ := HF.out _ rfl
        have HFF := Aside0.mk hf
        have HFS := Aside0.mk hfr
        obtain ⟨m, hm⟩ : ∃ m, (k :: t).length = m := ⟨_, rfl⟩
        rw [hm] at c0
        have q0 : decide ((0 : Int) < (m : Int)) = true := decide_eq_true (by rw [← hm]; simp)
        have q1 : decide (0 < m) = true := decide_eq_true (by rw [← hm]; simp)
        have q2 : (0 : Int) < (m : Int) := of_decide_eq_true q0
        have HK := Aside0.mk hk
        have EK := Aside0.mk ek
        clear hr hf hfr hm hbt hk HN HF ek
        go_upto_region 7 with (go_at_call 81; refine (bytes_of HX.out (show (0 : Int) ≤ 1 by decide) EB.out).mono ?_; rintro e1 w2 ⟨v1, rfl, ⟨A1, c1_, rfl, hC1, hl1⟩, hx, ho⟩; have HX2 := Aside0.mk hx; have HO2 := Aside0.mk ho; obtain ⟨ad, rfl, y0⟩ := Kd.at_int (Kd.C_below hC1 hx.bl) 0 (by omega) (by simp); have z0 : w2.cell? ad = some (.int .u8 k) := (by simpa [Addr.add, rd] using y0); clear hx ho hC1 hl1 y0)
        try rw [EK.out]
        have Z2 := ZS.out
        have S2 := HO2.out.size
        have BF := Bk.new w2 [.int .i64 k, .int .i64 0, .slice none 0 0, .int .i64 0, .slice none 0 0, .int .i64 0]
        have hfb : rb < w2.heap.size := by omega
        have OF := (HO2.out).alloc (.cells #[.int .i64 k, .int .i64 0, .slice none 0 0, .int .i64 0, .slice none 0 0, .int .i64 0] 62)
        have XF := HX2.out.below (below_alloc (Below.refl _ _) (.cells #[.int .i64 k, .int .i64 0, .slice none 0 0, .int .i64 0, .slice none 0 0, .int .i64 0] 62))
        have hRB0 := HRB.out
        have HW3 := Aside0.mk (HBL.out.trans (OF.below HBL.out.size (fun k q => by omega)))
        clear hRB0
        have RF : Kd.R (kmx w0) 62 _ (rb + 1) (fun j => j < wr.heap.size) (.slice Av nv cv_) L := R_keep3 (Kd.R_mono (Kd.R_bound R.out) (fun k hk => hk.2.2.1)) OF (fun k q => .inl (by omega))
        have SF : (w2.alloc (.cells #[.int .i64 k, .int .i64 0, .slice none 0 0, .int .i64 0, .slice none 0 0, .int .i64 0] 62)).heap.size = w2.heap.size + 1 := World.size_alloc _ _
        obtain ⟨fb, efb⟩ : ∃ fb, w2.heap.size = fb := ⟨_, rfl⟩
        rw [efb] at BF SF hfb S2 ⊢
        have HB3 := Aside0.mk BF
        have HX3 := Aside0.mk XF
        have HR3 := Aside0.mk RF
        have HZ3 := Aside0.mk (And.intro hfb (And.intro S2 (And.intro Z2 SF)))
        have HLT := Aside0.mk (show ∀ j, (Value.slice Av nv cv_).ownBlock = some j → j < wr.heap.size from Kd.R_lt R.out)
        clear z0 c0 c1 q0 q1 q2 BF XF OF RF SF hfb S2 Z2 HX2 HO2 HX R EB efb
        generalize w2.alloc (.cells #[.int .i64 k, .int .i64 0, .slice none 0 0, .int .i64 0, .slice none 0 0, .int .i64 0] 62) = w3 at *
        have hz := HZ3.out
        have HO3 := Aside0.mk (Only.refl (fun k => k = rb ∨ k = fb) w3)
        clear hz
        have g0 := HB3.out.cell 0 _ rfl
        by_cases k6 : k = 6
        · subst k6
          obtain ⟨⟨a, S1⟩, e_⟩ : ∃ q, numS (some t) = q := ⟨_, rfl⟩
          have E1 := Aside0.mk e_
          clear e_
          obtain ⟨⟨n, S2⟩, e_⟩ : ∃ q, numS S1 = q := ⟨_, rfl⟩
          have E2 := Aside0.mk e_
          clear e_
          obtain ⟨⟨d, S3⟩, e_⟩ : ∃ q, bytS S2 n = q := ⟨_, rfl⟩
          have E3 := Aside0.mk e_
          clear e_
          have HN0 := Aside0.mk (numS_rng (S := none) HBT.out E1.out E2.out)
          go_upto_region 25 with (first | (go_at_call 83; refine (number_of HX3.out E1.out).mono ?_; rintro e1 w4 ⟨rfl, hx, ho⟩; have hz := HZ3.out; have hRB := HRB.out; have HOa := HO3.out.trans (own_ab (fb := fb) ho); have Ba := HB3.out.only ho (by omega); have g3 := Ba.cell 3 _ rfl; have h3 := Ba.frozen 3; have HX4 := Aside0.mk (hx.far (a := ⟨fb, 3, none⟩) (by show fb ≠ rb; omega) (by show w0.heap.size ≤ fb; have := HB0.out; omega) (.int .i64 a)); have HB4 := Aside0.mk (Ba.set 3 (.int .i64 a)); have HO4 := Aside0.mk (HOa.setCell (ad := ⟨fb, 3, none⟩) (.inr rfl) (.int .i64 a)); clear hx ho HOa Ba hz hRB) | (go_at_call 83; refine (number_of HX4.out E2.out).mono ?_; rintro e1 w5 ⟨rfl, hx, ho⟩; have hz := HZ3.out; have hRB := HRB.out; have HOa := HO4.out.trans (own_ab (fb := fb) ho); have Ba := HB4.out.only ho (by omega); have HX5 := Aside0.mk hx; have HB5 := Aside0.mk Ba; have HO5 := Aside0.mk HOa; clear hx ho HOa Ba hz hRB) | (go_at_call 81; refine (bytes_of HX5.out HN0.out E3.out).mono ?_; rintro e1 w6 ⟨v4, rfl, ⟨A4, c4, rfl, hC4, hl4⟩, hx, ho⟩; have hz := HZ3.out; have hRB := HRB.out; have HOa := HO5.out.trans (own_ab (fb := fb) ho); have Ba := HB5.out.only ho (by omega); obtain ⟨n4, hn4⟩ : ∃ n4, d.length = n4 := ⟨_, rfl⟩; rw [hn4]; have G4 := Aside0.mk (show Row0 w0 (.slice A4 n4 c4) d from ⟨A4, c4, by rw [hn4], hC4, hl4⟩); clear hC4 hl4 hn4; have g4 := Ba.cell 4 _ rfl; have h4 := Ba.frozen 4; have HX6 := Aside0.mk (hx.far (a := ⟨fb, 4, none⟩) (by show fb ≠ rb; omega) (by show w0.heap.size ≤ fb; have := HB0.out; omega) (.slice A4 n4 c4)); have HB6 := Aside0.mk (Ba.set 4 (.slice A4 n4 c4)); have HO6 := Aside0.mk (HOa.setCell (ad := ⟨fb, 4, none⟩) (.inr rfl) (.slice A4 n4 c4)); clear hx ho HOa Ba hz hRB))
          have X9 := HX6
          have B9 := HB6
          have hz := HZ3.out
          have R9 := Aside0.mk (R_keep3 HR3.out HO6.out (fun k q => by rcases q with q | q; exact .inl (by omega); exact .inr (by omega)))
          have Z9 := Aside0.mk (Nat.le_trans (show wr.heap.size ≤ w3.heap.size by omega) HO6.out.size)
          have hRBd := HRB.out
          have HW9 := Aside0.mk (HW3.out.trans (HO6.out.below HW3.out.size (fun k q => by omega)))
          clear hz hRBd HX6 HB6 HO6
          try clear g0
          try clear g1 h1
          try clear g2 h2
          try clear g3 h3
          try clear g4 h4
          try clear g5 h5
          generalize w6.setCell ⟨fb, 4, none⟩ (.slice A4 n4 c4) = w9 at *
          have G2 := Aside0.mk (show Kd.R k102 102 w9 (rb + 1) (fun j => wr.heap.size ≤ j) (.slice none 0 0) ([] : List S102) from Kd.R_nil _ _ _ _ _)
          cases S3 with
          | none =>
            have FX := Aside0.mk (show NX 6 t ⟨6, 0, [], a, d, 0⟩ none from nx_crypto t d a n S1 S2 _ E1.out E2.out E3.out)
            have x0 := B9.out.cell 0 _ rfl
            have x1 := B9.out.cell 1 _ rfl
            have x2 := B9.out.cell 2 _ rfl
            have x3 := B9.out.cell 3 _ rfl
            have x4 := B9.out.cell 4 _ rfl
            have x5 := B9.out.cell 5 _ rfl
            obtain ⟨A5, c5, l5, hr5⟩ := X9.out
            have c1 := hr5.c1
            have f1 := hr5.f1
            have HR5 := Aside0.mk hr5
            clear hr5
            go_upto_region 26 with (fail)
            have X6 : Rs w0 (w9.setCell ⟨rb, 1, none⟩ (.bool true)) rb (outS none false) := ⟨_, _, _, HR5.out.mark true⟩
            have O56 := (Only.refl (fun k => k = rb) w9).setCell (ad := ⟨rb, 1, none⟩) rfl (.bool true)
            have STP := Aside0.mk (fr_step FX.out (b := false) (fun q => (by cases q)) HFF.out HFS.out)
            have hz := HZ3.out
            have hz9 := Z9.out
            have B6 := Aside0.mk (B9.out.only O56 (by omega))
            have hRBt := HRB.out
            have HW11 := Aside0.mk (HW9.out.trans (O56.below HW9.out.size (fun k q => by omega)))
            clear hRBt
            have R6 := Aside0.mk (R_keep3 R9.out O56 (fun k q => .inl (by omega)))
            have HG2 := Aside0.mk (R_keep3 G2.out O56 (fun k q => .inl (by omega)))
            have HX6 := Aside0.mk X6
            have HZ6 := Aside0.mk (show wr.heap.size ≤ (w9.setCell ⟨rb, 1, none⟩ (.bool true)).heap.size from Nat.le_trans hz9 O56.size)
            clear x0 x1 x2 x3 x4 x5 X6 O56 hz hz9
            try clear c1 f1
            try clear c1
            try clear c16 f16
            generalize w9.setCell ⟨rb, 1, none⟩ (.bool true) = w11 at *
            have x0 := B6.out.cell 0 _ rfl
            have x1 := B6.out.cell 1 _ rfl
            have x2 := B6.out.cell 2 _ rfl
            have x3 := B6.out.cell 3 _ rfl
            have x4 := B6.out.cell 4 _ rfl
            have x5 := B6.out.cell 5 _ rfl
            go_wp2_with ((with_reducible refine gate_builtin (b := .append) (xs := #[.tmp 106, .tmp 108]) rfl ?_); at_builtin; refine Kd.R_append (kmx w0) (w0 := w11) (rb + 1) rfl (.tmp 106) (.tmp 108) 52 62 (.agg #[.int .i64 0, .int .i64 0, .slice none 0 0, .int .i64 0, .slice none 0 0, .int .i64 0]) 80 rfl Tryd.underlying52 info62 rfl (show 0 < 6 by decide) (by omega) (.slice Av nv cv_) L (⟨6, 0, [], a, d, 0⟩ : S62) [.int .i64 6, .int .i64 0, .slice none 0 0, .int .i64 a, .slice A4 n4 c4, .int .i64 0] (fun _ => True) (fun j => wr.heap.size ≤ j) rfl rfl (kmx_mkM _ _ _ _ (⟨6, 0, [], a, d, 0⟩ : S62) HG2.out G4.out) (fun j hj => ⟨trivial, fun e => by have := HLT.out j e.symm; omega⟩) ?aF ?aO ?aB ?aS ?aL ?_; (case aF => exact fun _ _ => trivial); (case aO => exact Kd.R_mono R6.out (fun _ _ => trivial)); (case aB => exact Below.refl _ _); (case aS => have h1 := HZ6.out; have h2 := HZ3.out; omega); (case aL => have h1 := HLN.out; have h2 := HL.out; have h3 := HNV.out; omega); intro v1 w12 hR7 hb7 hg7 hat7; obtain ⟨A9, c9, e9⟩ := Kd.R_slice hR7; obtain ⟨n9, hn9⟩ : ∃ n9, (L ++ [(⟨6, 0, [], a, d, 0⟩ : S62)]).length = n9 := ⟨_, rfl⟩; rw [hn9] at e9; clear hn9; subst e9; have ho7 : Only (fun k => rb + 1 ≤ k) w11 w12 := (Only.refl _ w11).grown hg7 (fun k e => .inl (Kd.R_base R6.out k e)); have hRB := HRB.out; have R7 := Aside0.mk hR7; have X7 := Aside0.mk (HX6.out.only ho7 (by omega) (fun k q => by have := HB0.out; omega)); have O7 := Aside0.mk ho7.size; have W7 := Aside0.mk (HW11.out.trans (ho7.below HW11.out.size (fun k q => by omega))); clear hR7 hb7 hg7 hat7 ho7 hRB)
            go_roundg (t.length + 1)
            case measure => have h2 := HG.out; simp [meas] at h2; omega
            case rel =>
              exact ⟨(outS none false), L ++ [⟨6, 0, [], a, d, 0⟩], STP.out.2.1, ⟨STP.out.1⟩, ⟨STP.out.2.2⟩, X7, R7, W7, ⟨by have h1 := O7.out; have h2 := HZ6.out; have h3 := HZ3.out; omega⟩, ⟨by have h1 := STP.out.2.1; have h2 := HLN.out; simp [meas] at h2; rw [List.length_append]; simp; omega⟩⟩
          | some y =>
            have FX := Aside0.mk (show NX 6 t ⟨6, 0, [], a, d, 0⟩ (some y) from nx_crypto t d a n S1 S2 _ E1.out E2.out E3.out)
            have x0 := B9.out.cell 0 _ rfl
            have x1 := B9.out.cell 1 _ rfl
            have x2 := B9.out.cell 2 _ rfl
            have x3 := B9.out.cell 3 _ rfl
            have x4 := B9.out.cell 4 _ rfl
            have x5 := B9.out.cell 5 _ rfl
            obtain ⟨A5, c5, hr5⟩ := X9.out.some_
            have c1 := hr5.c1
            obtain ⟨b, hb, hrt⟩ := right_of (w0 := w0) (⟨6, 0, [], a, d, 0⟩ : S62) G2.out G4.out hr5.bl (by first | exact GL.out | simp) (by simp [Shp])
            have HBB := Aside0.mk hb
            have HRT := Aside0.mk hrt
            clear hr5 hb hrt
            go_upto_region 26 with (go_at_call 44; refine HRT.out.mono ?_; rintro e1 w10 ⟨rfl, hb⟩; have HX10 := Aside0.mk (X9.out.below hb); have HO10 := Aside0.mk (Only.of_below (p := fun k => k = rb) hb); obtain ⟨A6, c6, hr6⟩ := HX10.out.some_; have c16 := hr6.c1; have f16 := hr6.f1; have HR6 := Aside0.mk hr6; clear hb hr6)
            have X6 : Rs w0 (w10.setCell ⟨rb, 1, none⟩ (.bool (!b))) rb (outS (some y) b) := mark_out HR6.out b
            have O56 := (HO10.out).setCell (ad := ⟨rb, 1, none⟩) rfl (.bool (!b))
            have STP := Aside0.mk (fr_step FX.out (fun _ => HBB.out) HFF.out HFS.out)
            have hz := HZ3.out
            have hz9 := Z9.out
            have B6 := Aside0.mk (B9.out.only O56 (by omega))
            have hRBt := HRB.out
            have HW11 := Aside0.mk (HW9.out.trans (O56.below HW9.out.size (fun k q => by omega)))
            clear hRBt
            have R6 := Aside0.mk (R_keep3 R9.out O56 (fun k q => .inl (by omega)))
            have HG2 := Aside0.mk (R_keep3 G2.out O56 (fun k q => .inl (by omega)))
            have HX6 := Aside0.mk X6
            have HZ6 := Aside0.mk (show wr.heap.size ≤ (w10.setCell ⟨rb, 1, none⟩ (.bool (!b))).heap.size from Nat.le_trans hz9 O56.size)
            clear x0 x1 x2 x3 x4 x5 X6 O56 hz hz9
            try clear c1 f1
            try clear c1
            try clear c16 f16
            generalize w10.setCell ⟨rb, 1, none⟩ (.bool (!b)) = w11 at *
            have x0 := B6.out.cell 0 _ rfl
            have x1 := B6.out.cell 1 _ rfl
            have x2 := B6.out.cell 2 _ rfl
            have x3 := B6.out.cell 3 _ rfl
            have x4 := B6.out.cell 4 _ rfl
            have x5 := B6.out.cell 5 _ rfl
            go_wp2_with ((with_reducible refine gate_builtin (b := .append) (xs := #[.tmp 106, .tmp 108]) rfl ?_); at_builtin; refine Kd.R_append (kmx w0) (w0 := w11) (rb + 1) rfl (.tmp 106) (.tmp 108) 52 62 (.agg #[.int .i64 0, .int .i64 0, .slice none 0 0, .int .i64 0, .slice none 0 0, .int .i64 0]) 80 rfl Tryd.underlying52 info62 rfl (show 0 < 6 by decide) (by omega) (.slice Av nv cv_) L (⟨6, 0, [], a, d, 0⟩ : S62) [.int .i64 6, .int .i64 0, .slice none 0 0, .int .i64 a, .slice A4 n4 c4, .int .i64 0] (fun _ => True) (fun j => wr.heap.size ≤ j) rfl rfl (kmx_mkM _ _ _ _ (⟨6, 0, [], a, d, 0⟩ : S62) HG2.out G4.out) (fun j hj => ⟨trivial, fun e => by have := HLT.out j e.symm; omega⟩) ?aF ?aO ?aB ?aS ?aL ?_; (case aF => exact fun _ _ => trivial); (case aO => exact Kd.R_mono R6.out (fun _ _ => trivial)); (case aB => exact Below.refl _ _); (case aS => have h1 := HZ6.out; have h2 := HZ3.out; omega); (case aL => have h1 := HLN.out; have h2 := HL.out; have h3 := HNV.out; omega); intro v1 w12 hR7 hb7 hg7 hat7; obtain ⟨A9, c9, e9⟩ := Kd.R_slice hR7; obtain ⟨n9, hn9⟩ : ∃ n9, (L ++ [(⟨6, 0, [], a, d, 0⟩ : S62)]).length = n9 := ⟨_, rfl⟩; rw [hn9] at e9; clear hn9; subst e9; have ho7 : Only (fun k => rb + 1 ≤ k) w11 w12 := (Only.refl _ w11).grown hg7 (fun k e => .inl (Kd.R_base R6.out k e)); have hRB := HRB.out; have R7 := Aside0.mk hR7; have X7 := Aside0.mk (HX6.out.only ho7 (by omega) (fun k q => by have := HB0.out; omega)); have O7 := Aside0.mk ho7.size; have W7 := Aside0.mk (HW11.out.trans (ho7.below HW11.out.size (fun k q => by omega))); clear hR7 hb7 hg7 hat7 ho7 hRB)
            go_roundg (t.length + 1)
            case measure => have h2 := HG.out; simp [meas] at h2; omega
            case rel =>
              exact ⟨(outS (some y) b), L ++ [⟨6, 0, [], a, d, 0⟩], STP.out.2.1, ⟨STP.out.1⟩, ⟨STP.out.2.2⟩, X7, R7, W7, ⟨by have h1 := O7.out; have h2 := HZ6.out; have h3 := HZ3.out; omega⟩, ⟨by have h1 := STP.out.2.1; have h2 := HLN.out; simp [meas] at h2; rw [List.length_append]; simp; omega⟩⟩
        by_cases k7 : k = 7
        · subst k7
          obtain ⟨⟨a, S3⟩, e_⟩ : ∃ q, trmS (some t) = q := ⟨_, rfl⟩
          have E1 := Aside0.mk e_
          clear e_
          go_upto_region 25 with (go_at_call 84; refine (term_of HX3.out E1.out).mono ?_; rintro e1 w4 ⟨rfl, hx, ho⟩; have hz := HZ3.out; have hRB := HRB.out; have HOa := HO3.out.trans (own_ab (fb := fb) ho); have Ba := HB3.out.only ho (by omega); have g5 := Ba.cell 5 _ rfl; have h5 := Ba.frozen 5; have HX4 := Aside0.mk (hx.far (a := ⟨fb, 5, none⟩) (by show fb ≠ rb; omega) (by show w0.heap.size ≤ fb; have := HB0.out; omega) (.int .i64 a)); have HB4 := Aside0.mk (Ba.set 5 (.int .i64 a)); have HO4 := Aside0.mk (HOa.setCell (ad := ⟨fb, 5, none⟩) (.inr rfl) (.int .i64 a)); clear hx ho HOa Ba hz hRB)
          have X9 := HX4
          have B9 := HB4
          have hz := HZ3.out
          have R9 := Aside0.mk (R_keep3 HR3.out HO4.out (fun k q => by rcases q with q | q; exact .inl (by omega); exact .inr (by omega)))
          have Z9 := Aside0.mk (Nat.le_trans (show wr.heap.size ≤ w3.heap.size by omega) HO4.out.size)
          have hRBd := HRB.out
          have HW9 := Aside0.mk (HW3.out.trans (HO4.out.below HW3.out.size (fun k q => by omega)))
          clear hz hRBd HX4 HB4 HO4
          try clear g0
          try clear g1 h1
          try clear g2 h2
          try clear g3 h3
          try clear g4 h4
          try clear g5 h5
          generalize w4.setCell ⟨fb, 5, none⟩ (.int .i64 a) = w9 at *
          have G2 := Aside0.mk (show Kd.R k102 102 w9 (rb + 1) (fun j => wr.heap.size ≤ j) (.slice none 0 0) ([] : List S102) from Kd.R_nil _ _ _ _ _)
          have G4 := Aside0.mk (row0_nil w0)
          cases S3 with
          | none =>
            have FX := Aside0.mk (show NX 7 t ⟨7, 0, [], 0, [], a⟩ none from nx_token t a _ E1.out)
            have x0 := B9.out.cell 0 _ rfl
            have x1 := B9.out.cell 1 _ rfl
            have x2 := B9.out.cell 2 _ rfl
            have x3 := B9.out.cell 3 _ rfl
            have x4 := B9.out.cell 4 _ rfl
            have x5 := B9.out.cell 5 _ rfl
            obtain ⟨A5, c5, l5, hr5⟩ := X9.out
            have c1 := hr5.c1
            have f1 := hr5.f1
            have HR5 := Aside0.mk hr5
            clear hr5
            go_upto_region 26 with (fail)
            have X6 : Rs w0 (w9.setCell ⟨rb, 1, none⟩ (.bool true)) rb (outS none false) := ⟨_, _, _, HR5.out.mark true⟩
            have O56 := (Only.refl (fun k => k = rb) w9).setCell (ad := ⟨rb, 1, none⟩) rfl (.bool true)
            have STP := Aside0.mk (fr_step FX.out (b := false) (fun q => (by cases q)) HFF.out HFS.out)
            have hz := HZ3.out
            have hz9 := Z9.out
            have B6 := Aside0.mk (B9.out.only O56 (by omega))
            have hRBt := HRB.out
            have HW11 := Aside0.mk (HW9.out.trans (O56.below HW9.out.size (fun k q => by omega)))
            clear hRBt
            have R6 := Aside0.mk (R_keep3 R9.out O56 (fun k q => .inl (by omega)))
            have HG2 := Aside0.mk (R_keep3 G2.out O56 (fun k q => .inl (by omega)))
            have HX6 := Aside0.mk X6
            have HZ6 := Aside0.mk (show wr.heap.size ≤ (w9.setCell ⟨rb, 1, none⟩ (.bool true)).heap.size from Nat.le_trans hz9 O56.size)
            clear x0 x1 x2 x3 x4 x5 X6 O56 hz hz9
            try clear c1 f1
            try clear c1
            try clear c16 f16
            generalize w9.setCell ⟨rb, 1, none⟩ (.bool true) = w11 at *
            have x0 := B6.out.cell 0 _ rfl
            have x1 := B6.out.cell 1 _ rfl
            have x2 := B6.out.cell 2 _ rfl
            have x3 := B6.out.cell 3 _ rfl
            have x4 := B6.out.cell 4 _ rfl
            have x5 := B6.out.cell 5 _ rfl
            go_wp2_with ((with_reducible refine gate_builtin (b := .append) (xs := #[.tmp 106, .tmp 108]) rfl ?_); at_builtin; refine Kd.R_append (kmx w0) (w0 := w11) (rb + 1) rfl (.tmp 106) (.tmp 108) 52 62 (.agg #[.int .i64 0, .int .i64 0, .slice none 0 0, .int .i64 0, .slice none 0 0, .int .i64 0]) 80 rfl Tryd.underlying52 info62 rfl (show 0 < 6 by decide) (by omega) (.slice Av nv cv_) L (⟨7, 0, [], 0, [], a⟩ : S62) [.int .i64 7, .int .i64 0, .slice none 0 0, .int .i64 0, .slice none 0 0, .int .i64 a] (fun _ => True) (fun j => wr.heap.size ≤ j) rfl rfl (kmx_mkM _ _ _ _ (⟨7, 0, [], 0, [], a⟩ : S62) HG2.out G4.out) (fun j hj => ⟨trivial, fun e => by have := HLT.out j e.symm; omega⟩) ?aF ?aO ?aB ?aS ?aL ?_; (case aF => exact fun _ _ => trivial); (case aO => exact Kd.R_mono R6.out (fun _ _ => trivial)); (case aB => exact Below.refl _ _); (case aS => have h1 := HZ6.out; have h2 := HZ3.out; omega); (case aL => have h1 := HLN.out; have h2 := HL.out; have h3 := HNV.out; omega); intro v1 w12 hR7 hb7 hg7 hat7; obtain ⟨A9, c9, e9⟩ := Kd.R_slice hR7; obtain ⟨n9, hn9⟩ : ∃ n9, (L ++ [(⟨7, 0, [], 0, [], a⟩ : S62)]).length = n9 := ⟨_, rfl⟩; rw [hn9] at e9; clear hn9; subst e9; have ho7 : Only (fun k => rb + 1 ≤ k) w11 w12 := (Only.refl _ w11).grown hg7 (fun k e => .inl (Kd.R_base R6.out k e)); have hRB := HRB.out; have R7 := Aside0.mk hR7; have X7 := Aside0.mk (HX6.out.only ho7 (by omega) (fun k q => by have := HB0.out; omega)); have O7 := Aside0.mk ho7.size; have W7 := Aside0.mk (HW11.out.trans (ho7.below HW11.out.size (fun k q => by omega))); clear hR7 hb7 hg7 hat7 ho7 hRB)
            go_roundg (t.length + 1)
            case measure => have h2 := HG.out; simp [meas] at h2; omega
            case rel =>
              exact ⟨(outS none false), L ++ [⟨7, 0, [], 0, [], a⟩], STP.out.2.1, ⟨STP.out.1⟩, ⟨STP.out.2.2⟩, X7, R7, W7, ⟨by have h1 := O7.out; have h2 := HZ6.out; have h3 := HZ3.out; omega⟩, ⟨by have h1 := STP.out.2.1; have h2 := HLN.out; simp [meas] at h2; rw [List.length_append]; simp; omega⟩⟩
          | some y =>
            have FX := Aside0.mk (show NX 7 t ⟨7, 0, [], 0, [], a⟩ (some y) from nx_token t a _ E1.out)
            have x0 := B9.out.cell 0 _ rfl
            have x1 := B9.out.cell 1 _ rfl
            have x2 := B9.out.cell 2 _ rfl
            have x3 := B9.out.cell 3 _ rfl
            have x4 := B9.out.cell 4 _ rfl
            have x5 := B9.out.cell 5 _ rfl
            obtain ⟨A5, c5, hr5⟩ := X9.out.some_
            have c1 := hr5.c1
            obtain ⟨b, hb, hrt⟩ := right_of (w0 := w0) (⟨7, 0, [], 0, [], a⟩ : S62) G2.out G4.out hr5.bl (by first | exact GL.out | simp) (by simp [Shp])
            have HBB := Aside0.mk hb
            have HRT := Aside0.mk hrt
            clear hr5 hb hrt
            go_upto_region 26 with (go_at_call 44; refine HRT.out.mono ?_; rintro e1 w10 ⟨rfl, hb⟩; have HX10 := Aside0.mk (X9.out.below hb); have HO10 := Aside0.mk (Only.of_below (p := fun k => k = rb) hb); obtain ⟨A6, c6, hr6⟩ := HX10.out.some_; have c16 := hr6.c1; have f16 := hr6.f1; have HR6 := Aside0.mk hr6; clear hb hr6)
            have X6 : Rs w0 (w10.setCell ⟨rb, 1, none⟩ (.bool (!b))) rb (outS (some y) b) := mark_out HR6.out b
            have O56 := (HO10.out).setCell (ad := ⟨rb, 1, none⟩) rfl (.bool (!b))
            have STP := Aside0.mk (fr_step FX.out (fun _ => HBB.out) HFF.out HFS.out)
            have hz := HZ3.out
            have hz9 := Z9.out
            have B6 := Aside0.mk (B9.out.only O56 (by omega))
            have hRBt := HRB.out
            have HW11 := Aside0.mk (HW9.out.trans (O56.below HW9.out.size (fun k q => by omega)))
            clear hRBt
            have R6 := Aside0.mk (R_keep3 R9.out O56 (fun k q => .inl (by omega)))
            have HG2 := Aside0.mk (R_keep3 G2.out O56 (fun k q => .inl (by omega)))
            have HX6 := Aside0.mk X6
            have HZ6 := Aside0.mk (show wr.heap.size ≤ (w10.setCell ⟨rb, 1, none⟩ (.bool (!b))).heap.size from Nat.le_trans hz9 O56.size)
            clear x0 x1 x2 x3 x4 x5 X6 O56 hz hz9
            try clear c1 f1
            try clear c1
            try clear c16 f16
            generalize w10.setCell ⟨rb, 1, none⟩ (.bool (!b)) = w11 at *
            have x0 := B6.out.cell 0 _ rfl
            have x1 := B6.out.cell 1 _ rfl
            have x2 := B6.out.cell 2 _ rfl
            have x3 := B6.out.cell 3 _ rfl
            have x4 := B6.out.cell 4 _ rfl
            have x5 := B6.out.cell 5 _ rfl
            go_wp2_with ((with_reducible refine gate_builtin (b := .append) (xs := #[.tmp 106, .tmp 108]) rfl ?_); at_builtin; refine Kd.R_append (kmx w0) (w0 := w11) (rb + 1) rfl (.tmp 106) (.tmp 108) 52 62 (.agg #[.int .i64 0, .int .i64 0, .slice none 0 0, .int .i64 0, .slice none 0 0, .int .i64 0]) 80 rfl Tryd.underlying52 info62 rfl (show 0 < 6 by decide) (by omega) (.slice Av nv cv_) L (⟨7, 0, [], 0, [], a⟩ : S62) [.int .i64 7, .int .i64 0, .slice none 0 0, .int .i64 0, .slice none 0 0, .int .i64 a] (fun _ => True) (fun j => wr.heap.size ≤ j) rfl rfl (kmx_mkM _ _ _ _ (⟨7, 0, [], 0, [], a⟩ : S62) HG2.out G4.out) (fun j hj => ⟨trivial, fun e => by have := HLT.out j e.symm; omega⟩) ?aF ?aO ?aB ?aS ?aL ?_; (case aF => exact fun _ _ => trivial); (case aO => exact Kd.R_mono R6.out (fun _ _ => trivial)); (case aB => exact Below.refl _ _); (case aS => have h1 := HZ6.out; have h2 := HZ3.out; omega); (case aL => have h1 := HLN.out; have h2 := HL.out; have h3 := HNV.out; omega); intro v1 w12 hR7 hb7 hg7 hat7; obtain ⟨A9, c9, e9⟩ := Kd.R_slice hR7; obtain ⟨n9, hn9⟩ : ∃ n9, (L ++ [(⟨7, 0, [], 0, [], a⟩ : S62)]).length = n9 := ⟨_, rfl⟩; rw [hn9] at e9; clear hn9; subst e9; have ho7 : Only (fun k => rb + 1 ≤ k) w11 w12 := (Only.refl _ w11).grown hg7 (fun k e => .inl (Kd.R_base R6.out k e)); have hRB := HRB.out; have R7 := Aside0.mk hR7; have X7 := Aside0.mk (HX6.out.only ho7 (by omega) (fun k q => by have := HB0.out; omega)); have O7 := Aside0.mk ho7.size; have W7 := Aside0.mk (HW11.out.trans (ho7.below HW11.out.size (fun k q => by omega))); clear hR7 hb7 hg7 hat7 ho7 hRB)
            go_roundg (t.length + 1)
            case measure => have h2 := HG.out; simp [meas] at h2; omega
            case rel =>
              exact ⟨(outS (some y) b), L ++ [⟨7, 0, [], 0, [], a⟩], STP.out.2.1, ⟨STP.out.1⟩, ⟨STP.out.2.2⟩, X7, R7, W7, ⟨by have h1 := O7.out; have h2 := HZ6.out; have h3 := HZ3.out; omega⟩, ⟨by have h1 := STP.out.2.1; have h2 := HLN.out; simp [meas] at h2; rw [List.length_append]; simp; omega⟩⟩
        by_cases k8 : k = 8
        · subst k8
          obtain ⟨⟨a, S1⟩, e_⟩ : ∃ q, numS (some t) = q := ⟨_, rfl⟩
          have E1 := Aside0.mk e_
          clear e_
          obtain ⟨⟨n, S3⟩, e_⟩ : ∃ q, trmS S1 = q := ⟨_, rfl⟩
          have E2 := Aside0.mk e_
          clear e_
          go_upto_region 25 with (first | (go_at_call 83; refine (number_of HX3.out E1.out).mono ?_; rintro e1 w4 ⟨rfl, hx, ho⟩; have hz := HZ3.out; have hRB := HRB.out; have HOa := HO3.out.trans (own_ab (fb := fb) ho); have Ba := HB3.out.only ho (by omega); have g1 := Ba.cell 1 _ rfl; have h1 := Ba.frozen 1; have HX4 := Aside0.mk (hx.far (a := ⟨fb, 1, none⟩) (by show fb ≠ rb; omega) (by show w0.heap.size ≤ fb; have := HB0.out; omega) (.int .i64 a)); have HB4 := Aside0.mk (Ba.set 1 (.int .i64 a)); have HO4 := Aside0.mk (HOa.setCell (ad := ⟨fb, 1, none⟩) (.inr rfl) (.int .i64 a)); clear hx ho HOa Ba hz hRB) | (go_at_call 84; refine (term_of HX4.out E2.out).mono ?_; rintro e1 w5 ⟨rfl, hx, ho⟩; have hz := HZ3.out; have hRB := HRB.out; have HOa := HO4.out.trans (own_ab (fb := fb) ho); have Ba := HB4.out.only ho (by omega); have g5 := Ba.cell 5 _ rfl; have h5 := Ba.frozen 5; have HX5 := Aside0.mk (hx.far (a := ⟨fb, 5, none⟩) (by show fb ≠ rb; omega) (by show w0.heap.size ≤ fb; have := HB0.out; omega) (.int .i64 n)); have HB5 := Aside0.mk (Ba.set 5 (.int .i64 n)); have HO5 := Aside0.mk (HOa.setCell (ad := ⟨fb, 5, none⟩) (.inr rfl) (.int .i64 n)); clear hx ho HOa Ba hz hRB))
          have X9 := HX5
          have B9 := HB5
          have hz := HZ3.out
          have R9 := Aside0.mk (R_keep3 HR3.out HO5.out (fun k q => by rcases q with q | q; exact .inl (by omega); exact .inr (by omega)))
          have Z9 := Aside0.mk (Nat.le_trans (show wr.heap.size ≤ w3.heap.size by omega) HO5.out.size)
          have hRBd := HRB.out
          have HW9 := Aside0.mk (HW3.out.trans (HO5.out.below HW3.out.size (fun k q => by omega)))
          clear hz hRBd HX5 HB5 HO5
          try clear g0
          try clear g1 h1
          try clear g2 h2
          try clear g3 h3
          try clear g4 h4
          try clear g5 h5
          generalize w5.setCell ⟨fb, 5, none⟩ (.int .i64 n) = w9 at *
          have G2 := Aside0.mk (show Kd.R k102 102 w9 (rb + 1) (fun j => wr.heap.size ≤ j) (.slice none 0 0) ([] : List S102) from Kd.R_nil _ _ _ _ _)
          have G4 := Aside0.mk (row0_nil w0)
          cases S3 with
          | none =>
            have FX := Aside0.mk (show NX 8 t ⟨8, a, [], 0, [], n⟩ none from nx_data t a n S1 _ E1.out E2.out)
            have x0 := B9.out.cell 0 _ rfl
            have x1 := B9.out.cell 1 _ rfl
            have x2 := B9.out.cell 2 _ rfl
            have x3 := B9.out.cell 3 _ rfl
            have x4 := B9.out.cell 4 _ rfl
            have x5 := B9.out.cell 5 _ rfl
            obtain ⟨A5, c5, l5, hr5⟩ := X9.out
            have c1 := hr5.c1
            have f1 := hr5.f1
            have HR5 := Aside0.mk hr5
            clear hr5
            go_upto_region 26 with (fail)
            have X6 : Rs w0 (w9.setCell ⟨rb, 1, none⟩ (.bool true)) rb (outS none false) := ⟨_, _, _, HR5.out.mark true⟩
            have O56 := (Only.refl (fun k => k = rb) w9).setCell (ad := ⟨rb, 1, none⟩) rfl (.bool true)
            have STP := Aside0.mk (fr_step FX.out (b := false) (fun q => (by cases q)) HFF.out HFS.out)
            have hz := HZ3.out
            have hz9 := Z9.out
            have B6 := Aside0.mk (B9.out.only O56 (by omega))
            have hRBt := HRB.out
            have HW11 := Aside0.mk (HW9.out.trans (O56.below HW9.out.size (fun k q => by omega)))
            clear hRBt
            have R6 := Aside0.mk (R_keep3 R9.out O56 (fun k q => .inl (by omega)))
            have HG2 := Aside0.mk (R_keep3 G2.out O56 (fun k q => .inl (by omega)))
            have HX6 := Aside0.mk X6
            have HZ6 := Aside0.mk (show wr.heap.size ≤ (w9.setCell ⟨rb, 1, none⟩ (.bool true)).heap.size from Nat.le_trans hz9 O56.size)
            clear x0 x1 x2 x3 x4 x5 X6 O56 hz hz9
            try clear c1 f1
            try clear c1
            try clear c16 f16
            generalize w9.setCell ⟨rb, 1, none⟩ (.bool true) = w11 at *
            have x0 := B6.out.cell 0 _ rfl
            have x1 := B6.out.cell 1 _ rfl
            have x2 := B6.out.cell 2 _ rfl
            have x3 := B6.out.cell 3 _ rfl
            have x4 := B6.out.cell 4 _ rfl
            have x5 := B6.out.cell 5 _ rfl
            go_wp2_with ((with_reducible refine gate_builtin (b := .append) (xs := #[.tmp 106, .tmp 108]) rfl ?_); at_builtin; refine Kd.R_append (kmx w0) (w0 := w11) (rb + 1) rfl (.tmp 106) (.tmp 108) 52 62 (.agg #[.int .i64 0, .int .i64 0, .slice none 0 0, .int .i64 0, .slice none 0 0, .int .i64 0]) 80 rfl Tryd.underlying52 info62 rfl (show 0 < 6 by decide) (by omega) (.slice Av nv cv_) L (⟨8, a, [], 0, [], n⟩ : S62) [.int .i64 8, .int .i64 a, .slice none 0 0, .int .i64 0, .slice none 0 0, .int .i64 n] (fun _ => True) (fun j => wr.heap.size ≤ j) rfl rfl (kmx_mkM _ _ _ _ (⟨8, a, [], 0, [], n⟩ : S62) HG2.out G4.out) (fun j hj => ⟨trivial, fun e => by have := HLT.out j e.symm; omega⟩) ?aF ?aO ?aB ?aS ?aL ?_; (case aF => exact fun _ _ => trivial); (case aO => exact Kd.R_mono R6.out (fun _ _ => trivial)); (case aB => exact Below.refl _ _); (case aS => have h1 := HZ6.out; have h2 := HZ3.out; omega); (case aL => have h1 := HLN.out; have h2 := HL.out; have h3 := HNV.out; omega); intro v1 w12 hR7 hb7 hg7 hat7; obtain ⟨A9, c9, e9⟩ := Kd.R_slice hR7; obtain ⟨n9, hn9⟩ : ∃ n9, (L ++ [(⟨8, a, [], 0, [], n⟩ : S62)]).length = n9 := ⟨_, rfl⟩; rw [hn9] at e9; clear hn9; subst e9; have ho7 : Only (fun k => rb + 1 ≤ k) w11 w12 := (Only.refl _ w11).grown hg7 (fun k e => .inl (Kd.R_base R6.out k e)); have hRB := HRB.out; have R7 := Aside0.mk hR7; have X7 := Aside0.mk (HX6.out.only ho7 (by omega) (fun k q => by have := HB0.out; omega)); have O7 := Aside0.mk ho7.size; have W7 := Aside0.mk (HW11.out.trans (ho7.below HW11.out.size (fun k q => by omega))); clear hR7 hb7 hg7 hat7 ho7 hRB)
            go_roundg (t.length + 1)
            case measure => have h2 := HG.out; simp [meas] at h2; omega
            case rel =>
              exact ⟨(outS none false), L ++ [⟨8, a, [], 0, [], n⟩], STP.out.2.1, ⟨STP.out.1⟩, ⟨STP.out.2.2⟩, X7, R7, W7, ⟨by have h1 := O7.out; have h2 := HZ6.out; have h3 := HZ3.out; omega⟩, ⟨by have h1 := STP.out.2.1; have h2 := HLN.out; simp [meas] at h2; rw [List.length_append]; simp; omega⟩⟩
          | some y =>
            have FX := Aside0.mk (show NX 8 t ⟨8, a, [], 0, [], n⟩ (some y) from nx_data t a n S1 _ E1.out E2.out)
            have x0 := B9.out.cell 0 _ rfl
            have x1 := B9.out.cell 1 _ rfl
            have x2 := B9.out.cell 2 _ rfl
            have x3 := B9.out.cell 3 _ rfl
            have x4 := B9.out.cell 4 _ rfl
            have x5 := B9.out.cell 5 _ rfl
            obtain ⟨A5, c5, hr5⟩ := X9.out.some_
            have c1 := hr5.c1
            obtain ⟨b, hb, hrt⟩ := right_of (w0 := w0) (⟨8, a, [], 0, [], n⟩ : S62) G2.out G4.out hr5.bl (by first | exact GL.out | simp) (by simp [Shp])
            have HBB := Aside0.mk hb
            have HRT := Aside0.mk hrt
            clear hr5 hb hrt
            go_upto_region 26 with (go_at_call 44; refine HRT.out.mono ?_; rintro e1 w10 ⟨rfl, hb⟩; have HX10 := Aside0.mk (X9.out.below hb); have HO10 := Aside0.mk (Only.of_below (p := fun k => k = rb) hb); obtain ⟨A6, c6, hr6⟩ := HX10.out.some_; have c16 := hr6.c1; have f16 := hr6.f1; have HR6 := Aside0.mk hr6; clear hb hr6)
            have X6 : Rs w0 (w10.setCell ⟨rb, 1, none⟩ (.bool (!b))) rb (outS (some y) b) := mark_out HR6.out b
            have O56 := (HO10.out).setCell (ad := ⟨rb, 1, none⟩) rfl (.bool (!b))
            have STP := Aside0.mk (fr_step FX.out (fun _ => HBB.out) HFF.out HFS.out)
            have hz := HZ3.out
            have hz9 := Z9.out
            have B6 := Aside0.mk (B9.out.only O56 (by omega))
            have hRBt := HRB.out
            have HW11 := Aside0.mk (HW9.out.trans (O56.below HW9.out.size (fun k q => by omega)))
            clear hRBt
            have R6 := Aside0.mk (R_keep3 R9.out O56 (fun k q => .inl (by omega)))
            have HG2 := Aside0.mk (R_keep3 G2.out O56 (fun k q => .inl (by omega)))
            have HX6 := Aside0.mk X6
            have HZ6 := Aside0.mk (show wr.heap.size ≤ (w10.setCell ⟨rb, 1, none⟩ (.bool (!b))).heap.size from Nat.le_trans hz9 O56.size)
            clear x0 x1 x2 x3 x4 x5 X6 O56 hz hz9
            try clear c1 f1
            try clear c1
            try clear c16 f16
            generalize w10.setCell ⟨rb, 1, none⟩ (.bool (!b)) = w11 at *
            have x0 := B6.out.cell 0 _ rfl
            have x1 := B6.out.cell 1 _ rfl
            have x2 := B6.out.cell 2 _ rfl
            have x3 := B6.out.cell 3 _ rfl
            have x4 := B6.out.cell 4 _ rfl
            have x5 := B6.out.cell 5 _ rfl
            go_wp2_with ((with_reducible refine gate_builtin (b := .append) (xs := #[.tmp 106, .tmp 108]) rfl ?_); at_builtin; refine Kd.R_append (kmx w0) (w0 := w11) (rb + 1) rfl (.tmp 106) (.tmp 108) 52 62 (.agg #[.int .i64 0, .int .i64 0, .slice none 0 0, .int .i64 0, .slice none 0 0, .int .i64 0]) 80 rfl Tryd.underlying52 info62 rfl (show 0 < 6 by decide) (by omega) (.slice Av nv cv_) L (⟨8, a, [], 0, [], n⟩ : S62) [.int .i64 8, .int .i64 a, .slice none 0 0, .int .i64 0, .slice none 0 0, .int .i64 n] (fun _ => True) (fun j => wr.heap.size ≤ j) rfl rfl (kmx_mkM _ _ _ _ (⟨8, a, [], 0, [], n⟩ : S62) HG2.out G4.out) (fun j hj => ⟨trivial, fun e => by have := HLT.out j e.symm; omega⟩) ?aF ?aO ?aB ?aS ?aL ?_; (case aF => exact fun _ _ => trivial); (case aO => exact Kd.R_mono R6.out (fun _ _ => trivial)); (case aB => exact Below.refl _ _); (case aS => have h1 := HZ6.out; have h2 := HZ3.out; omega); (case aL => have h1 := HLN.out; have h2 := HL.out; have h3 := HNV.out; omega); intro v1 w12 hR7 hb7 hg7 hat7; obtain ⟨A9, c9, e9⟩ := Kd.R_slice hR7; obtain ⟨n9, hn9⟩ : ∃ n9, (L ++ [(⟨8, a, [], 0, [], n⟩ : S62)]).length = n9 := ⟨_, rfl⟩; rw [hn9] at e9; clear hn9; subst e9; have ho7 : Only (fun k => rb + 1 ≤ k) w11 w12 := (Only.refl _ w11).grown hg7 (fun k e => .inl (Kd.R_base R6.out k e)); have hRB := HRB.out; have R7 := Aside0.mk hR7; have X7 := Aside0.mk (HX6.out.only ho7 (by omega) (fun k q => by have := HB0.out; omega)); have O7 := Aside0.mk ho7.size; have W7 := Aside0.mk (HW11.out.trans (ho7.below HW11.out.size (fun k q => by omega))); clear hR7 hb7 hg7 hat7 ho7 hRB)
            go_roundg (t.length + 1)
            case measure => have h2 := HG.out; simp [meas] at h2; omega
            case rel =>
              exact ⟨(outS (some y) b), L ++ [⟨8, a, [], 0, [], n⟩], STP.out.2.1, ⟨STP.out.1⟩, ⟨STP.out.2.2⟩, X7, R7, W7, ⟨by have h1 := O7.out; have h2 := HZ6.out; have h3 := HZ3.out; omega⟩, ⟨by have h1 := STP.out.2.1; have h2 := HLN.out; simp [meas] at h2; rw [List.length_append]; simp; omega⟩⟩
        by_cases k28 : k = 28
        · subst k28
          obtain ⟨⟨a, S3⟩, e_⟩ : ∃ q, numS (some t) = q := ⟨_, rfl⟩
          have E1 := Aside0.mk e_
          clear e_
          go_upto_region 25 with (go_at_call 83; refine (number_of HX3.out E1.out).mono ?_; rintro e1 w4 ⟨rfl, hx, ho⟩; have hz := HZ3.out; have hRB := HRB.out; have HOa := HO3.out.trans (own_ab (fb := fb) ho); have Ba := HB3.out.only ho (by omega); have g1 := Ba.cell 1 _ rfl; have h1 := Ba.frozen 1; have HX4 := Aside0.mk (hx.far (a := ⟨fb, 1, none⟩) (by show fb ≠ rb; omega) (by show w0.heap.size ≤ fb; have := HB0.out; omega) (.int .i64 a)); have HB4 := Aside0.mk (Ba.set 1 (.int .i64 a)); have HO4 := Aside0.mk (HOa.setCell (ad := ⟨fb, 1, none⟩) (.inr rfl) (.int .i64 a)); clear hx ho HOa Ba hz hRB)
          have X9 := HX4
          have B9 := HB4
          have hz := HZ3.out
          have R9 := Aside0.mk (R_keep3 HR3.out HO4.out (fun k q => by rcases q with q | q; exact .inl (by omega); exact .inr (by omega)))
          have Z9 := Aside0.mk (Nat.le_trans (show wr.heap.size ≤ w3.heap.size by omega) HO4.out.size)
          have hRBd := HRB.out
          have HW9 := Aside0.mk (HW3.out.trans (HO4.out.below HW3.out.size (fun k q => by omega)))
          clear hz hRBd HX4 HB4 HO4
          try clear g0
          try clear g1 h1
          try clear g2 h2
          try clear g3 h3
          try clear g4 h4
          try clear g5 h5
          generalize w4.setCell ⟨fb, 1, none⟩ (.int .i64 a) = w9 at *
          have G2 := Aside0.mk (show Kd.R k102 102 w9 (rb + 1) (fun j => wr.heap.size ≤ j) (.slice none 0 0) ([] : List S102) from Kd.R_nil _ _ _ _ _)
          have G4 := Aside0.mk (row0_nil w0)
          cases S3 with
          | none =>
            have FX := Aside0.mk (show NX 28 t ⟨28, a, [], 0, [], 0⟩ none from nx_closed t a _ E1.out)
            have x0 := B9.out.cell 0 _ rfl
            have x1 := B9.out.cell 1 _ rfl
            have x2 := B9.out.cell 2 _ rfl
            have x3 := B9.out.cell 3 _ rfl
            have x4 := B9.out.cell 4 _ rfl
            have x5 := B9.out.cell 5 _ rfl
            obtain ⟨A5, c5, l5, hr5⟩ := X9.out
            have c1 := hr5.c1
            have f1 := hr5.f1
            have HR5 := Aside0.mk hr5
            clear hr5
            go_upto_region 26 with (fail)
            have X6 : Rs w0 (w9.setCell ⟨rb, 1, none⟩ (.bool true)) rb (outS none false) := ⟨_, _, _, HR5.out.mark true⟩
            have O56 := (Only.refl (fun k => k = rb) w9).setCell (ad := ⟨rb, 1, none⟩) rfl (.bool true)
            have STP := Aside0.mk (fr_step FX.out (b := false) (fun q => (by cases q)) HFF.out HFS.out)
            have hz := HZ3.out
            have hz9 := Z9.out
            have B6 := Aside0.mk (B9.out.only O56 (by omega))
            have hRBt := HRB.out
            have HW11 := Aside0.mk (HW9.out.trans (O56.below HW9.out.size (fun k q => by omega)))
            clear hRBt
            have R6 := Aside0.mk (R_keep3 R9.out O56 (fun k q => .inl (by omega)))
            have HG2 := Aside0.mk (R_keep3 G2.out O56 (fun k q => .inl (by omega)))
            have HX6 := Aside0.mk X6
            have HZ6 := Aside0.mk (show wr.heap.size ≤ (w9.setCell ⟨rb, 1, none⟩ (.bool true)).heap.size from Nat.le_trans hz9 O56.size)
            clear x0 x1 x2 x3 x4 x5 X6 O56 hz hz9
            try clear c1 f1
            try clear c1
            try clear c16 f16
            generalize w9.setCell ⟨rb, 1, none⟩ (.bool true) = w11 at *
            have x0 := B6.out.cell 0 _ rfl
            have x1 := B6.out.cell 1 _ rfl
            have x2 := B6.out.cell 2 _ rfl
            have x3 := B6.out.cell 3 _ rfl
            have x4 := B6.out.cell 4 _ rfl
            have x5 := B6.out.cell 5 _ rfl
            go_wp2_with ((with_reducible refine gate_builtin (b := .append) (xs := #[.tmp 106, .tmp 108]) rfl ?_); at_builtin; refine Kd.R_append (kmx w0) (w0 := w11) (rb + 1) rfl (.tmp 106) (.tmp 108) 52 62 (.agg #[.int .i64 0, .int .i64 0, .slice none 0 0, .int .i64 0, .slice none 0 0, .int .i64 0]) 80 rfl Tryd.underlying52 info62 rfl (show 0 < 6 by decide) (by omega) (.slice Av nv cv_) L (⟨28, a, [], 0, [], 0⟩ : S62) [.int .i64 28, .int .i64 a, .slice none 0 0, .int .i64 0, .slice none 0 0, .int .i64 0] (fun _ => True) (fun j => wr.heap.size ≤ j) rfl rfl (kmx_mkM _ _ _ _ (⟨28, a, [], 0, [], 0⟩ : S62) HG2.out G4.out) (fun j hj => ⟨trivial, fun e => by have := HLT.out j e.symm; omega⟩) ?aF ?aO ?aB ?aS ?aL ?_; (case aF => exact fun _ _ => trivial); (case aO => exact Kd.R_mono R6.out (fun _ _ => trivial)); (case aB => exact Below.refl _ _); (case aS => have h1 := HZ6.out; have h2 := HZ3.out; omega); (case aL => have h1 := HLN.out; have h2 := HL.out; have h3 := HNV.out; omega); intro v1 w12 hR7 hb7 hg7 hat7; obtain ⟨A9, c9, e9⟩ := Kd.R_slice hR7; obtain ⟨n9, hn9⟩ : ∃ n9, (L ++ [(⟨28, a, [], 0, [], 0⟩ : S62)]).length = n9 := ⟨_, rfl⟩; rw [hn9] at e9; clear hn9; subst e9; have ho7 : Only (fun k => rb + 1 ≤ k) w11 w12 := (Only.refl _ w11).grown hg7 (fun k e => .inl (Kd.R_base R6.out k e)); have hRB := HRB.out; have R7 := Aside0.mk hR7; have X7 := Aside0.mk (HX6.out.only ho7 (by omega) (fun k q => by have := HB0.out; omega)); have O7 := Aside0.mk ho7.size; have W7 := Aside0.mk (HW11.out.trans (ho7.below HW11.out.size (fun k q => by omega))); clear hR7 hb7 hg7 hat7 ho7 hRB)
            go_roundg (t.length + 1)
            case measure => have h2 := HG.out; simp [meas] at h2; omega
            case rel =>
              exact ⟨(outS none false), L ++ [⟨28, a, [], 0, [], 0⟩], STP.out.2.1, ⟨STP.out.1⟩, ⟨STP.out.2.2⟩, X7, R7, W7, ⟨by have h1 := O7.out; have h2 := HZ6.out; have h3 := HZ3.out; omega⟩, ⟨by have h1 := STP.out.2.1; have h2 := HLN.out; simp [meas] at h2; rw [List.length_append]; simp; omega⟩⟩
          | some y =>
            have FX := Aside0.mk (show NX 28 t ⟨28, a, [], 0, [], 0⟩ (some y) from nx_closed t a _ E1.out)
            have x0 := B9.out.cell 0 _ rfl
            have x1 := B9.out.cell 1 _ rfl
            have x2 := B9.out.cell 2 _ rfl
            have x3 := B9.out.cell 3 _ rfl
            have x4 := B9.out.cell 4 _ rfl
            have x5 := B9.out.cell 5 _ rfl
            obtain ⟨A5, c5, hr5⟩ := X9.out.some_
            have c1 := hr5.c1
            obtain ⟨b, hb, hrt⟩ := right_of (w0 := w0) (⟨28, a, [], 0, [], 0⟩ : S62) G2.out G4.out hr5.bl (by first | exact GL.out | simp) (by simp [Shp])
            have HBB := Aside0.mk hb
            have HRT := Aside0.mk hrt
            clear hr5 hb hrt
            go_upto_region 26 with (go_at_call 44; refine HRT.out.mono ?_; rintro e1 w10 ⟨rfl, hb⟩; have HX10 := Aside0.mk (X9.out.below hb); have HO10 := Aside0.mk (Only.of_below (p := fun k => k = rb) hb); obtain ⟨A6, c6, hr6⟩ := HX10.out.some_; have c16 := hr6.c1; have f16 := hr6.f1; have HR6 := Aside0.mk hr6; clear hb hr6)
            have X6 : Rs w0 (w10.setCell ⟨rb, 1, none⟩ (.bool (!b))) rb (outS (some y) b) := mark_out HR6.out b
            have O56 := (HO10.out).setCell (ad := ⟨rb, 1, none⟩) rfl (.bool (!b))
            have STP := Aside0.mk (fr_step FX.out (fun _ => HBB.out) HFF.out HFS.out)
            have hz := HZ3.out
            have hz9 := Z9.out
            have B6 := Aside0.mk (B9.out.only O56 (by omega))
            have hRBt := HRB.out
            have HW11 := Aside0.mk (HW9.out.trans (O56.below HW9.out.size (fun k q => by omega)))
            clear hRBt
            have R6 := Aside0.mk (R_keep3 R9.out O56 (fun k q => .inl (by omega)))
            have HG2 := Aside0.mk (R_keep3 G2.out O56 (fun k q => .inl (by omega)))
            have HX6 := Aside0.mk X6
            have HZ6 := Aside0.mk (show wr.heap.size ≤ (w10.setCell ⟨rb, 1, none⟩ (.bool (!b))).heap.size from Nat.le_trans hz9 O56.size)
            clear x0 x1 x2 x3 x4 x5 X6 O56 hz hz9
            try clear c1 f1
            try clear c1
            try clear c16 f16
            generalize w10.setCell ⟨rb, 1, none⟩ (.bool (!b)) = w11 at *
            have x0 := B6.out.cell 0 _ rfl
            have x1 := B6.out.cell 1 _ rfl
            have x2 := B6.out.cell 2 _ rfl
            have x3 := B6.out.cell 3 _ rfl
            have x4 := B6.out.cell 4 _ rfl
            have x5 := B6.out.cell 5 _ rfl
            go_wp2_with ((with_reducible refine gate_builtin (b := .append) (xs := #[.tmp 106, .tmp 108]) rfl ?_); at_builtin; refine Kd.R_append (kmx w0) (w0 := w11) (rb + 1) rfl (.tmp 106) (.tmp 108) 52 62 (.agg #[.int .i64 0, .int .i64 0, .slice none 0 0, .int .i64 0, .slice none 0 0, .int .i64 0]) 80 rfl Tryd.underlying52 info62 rfl (show 0 < 6 by decide) (by omega) (.slice Av nv cv_) L (⟨28, a, [], 0, [], 0⟩ : S62) [.int .i64 28, .int .i64 a, .slice none 0 0, .int .i64 0, .slice none 0 0, .int .i64 0] (fun _ => True) (fun j => wr.heap.size ≤ j) rfl rfl (kmx_mkM _ _ _ _ (⟨28, a, [], 0, [], 0⟩ : S62) HG2.out G4.out) (fun j hj => ⟨trivial, fun e => by have := HLT.out j e.symm; omega⟩) ?aF ?aO ?aB ?aS ?aL ?_; (case aF => exact fun _ _ => trivial); (case aO => exact Kd.R_mono R6.out (fun _ _ => trivial)); (case aB => exact Below.refl _ _); (case aS => have h1 := HZ6.out; have h2 := HZ3.out; omega); (case aL => have h1 := HLN.out; have h2 := HL.out; have h3 := HNV.out; omega); intro v1 w12 hR7 hb7 hg7 hat7; obtain ⟨A9, c9, e9⟩ := Kd.R_slice hR7; obtain ⟨n9, hn9⟩ : ∃ n9, (L ++ [(⟨28, a, [], 0, [], 0⟩ : S62)]).length = n9 := ⟨_, rfl⟩; rw [hn9] at e9; clear hn9; subst e9; have ho7 : Only (fun k => rb + 1 ≤ k) w11 w12 := (Only.refl _ w11).grown hg7 (fun k e => .inl (Kd.R_base R6.out k e)); have hRB := HRB.out; have R7 := Aside0.mk hR7; have X7 := Aside0.mk (HX6.out.only ho7 (by omega) (fun k q => by have := HB0.out; omega)); have O7 := Aside0.mk ho7.size; have W7 := Aside0.mk (HW11.out.trans (ho7.below HW11.out.size (fun k q => by omega))); clear hR7 hb7 hg7 hat7 ho7 hRB)
            go_roundg (t.length + 1)
            case measure => have h2 := HG.out; simp [meas] at h2; omega
            case rel =>
              exact ⟨(outS (some y) b), L ++ [⟨28, a, [], 0, [], 0⟩], STP.out.2.1, ⟨STP.out.1⟩, ⟨STP.out.2.2⟩, X7, R7, W7, ⟨by have h1 := O7.out; have h2 := HZ6.out; have h3 := HZ3.out; omega⟩, ⟨by have h1 := STP.out.2.1; have h2 := HLN.out; simp [meas] at h2; rw [List.length_append]; simp; omega⟩⟩
        by_cases k2 : k = 2
        · subst k2
          go_upto_region 25 with (go_at_call 82; refine (ack_calls HX3.out).mono ?_; rintro e1 w4 ⟨v2, L2, S3, rfl, hR2, hx, ho, hL33, hcase⟩; have hz := HZ3.out; have hRB := HRB.out; have HOa := HO3.out.trans (own_ab (fb := fb) ho); have Ba := HB3.out.only ho (by omega); obtain ⟨A2', c2', hv2⟩ := Kd.R_slice hR2; obtain ⟨n2, hn2⟩ : ∃ n2, L2.length = n2 := ⟨_, rfl⟩; rw [hn2] at hv2; subst hv2; have GL := Aside0.mk (show L2.length ≤ 100 by omega); have NXA := Aside0.mk (nx_ack t L2 S3 hcase); have G2 := Aside0.mk (show Kd.R k102 102 (w4.setCell ⟨fb, 2, none⟩ (.slice A2' n2 c2')) (rb + 1) (fun j => wr.heap.size ≤ j) (.slice A2' n2 c2') L2 from Kd.R_lower (Kd.R_mono (Kd.R_bound (R_only hR2 ((Only.refl (fun k => k = fb) w4).setCell (ad := ⟨fb, 2, none⟩) rfl (.slice A2' n2 c2')) (fun k q => by omega))) (fun j hj => by have := hj.2.1; omega)) (by omega)); clear hR2 hn2 hL33 hcase; have g2 := Ba.cell 2 _ rfl; have h2 := Ba.frozen 2; have HX4 := Aside0.mk (hx.far (a := ⟨fb, 2, none⟩) (by show fb ≠ rb; omega) (by show w0.heap.size ≤ fb; have := HB0.out; omega) (.slice A2' n2 c2')); have HB4 := Aside0.mk (Ba.set 2 (.slice A2' n2 c2')); have HO4 := Aside0.mk (HOa.setCell (ad := ⟨fb, 2, none⟩) (.inr rfl) (.slice A2' n2 c2')); clear hx ho HOa Ba hz hRB)
          have X9 := HX4
          have B9 := HB4
          have hz := HZ3.out
          have R9 := Aside0.mk (R_keep3 HR3.out HO4.out (fun k q => by rcases q with q | q; exact .inl (by omega); exact .inr (by omega)))
          have Z9 := Aside0.mk (Nat.le_trans (show wr.heap.size ≤ w3.heap.size by omega) HO4.out.size)
          have hRBd := HRB.out
          have HW9 := Aside0.mk (HW3.out.trans (HO4.out.below HW3.out.size (fun k q => by omega)))
          clear hz hRBd HX4 HB4 HO4
          try clear g0
          try clear g1 h1
          try clear g2 h2
          try clear g3 h3
          try clear g4 h4
          try clear g5 h5
          generalize w4.setCell ⟨fb, 2, none⟩ (.slice A2' n2 c2') = w9 at *
          have G4 := Aside0.mk (row0_nil w0)
          cases S3 with
          | none =>
            have FX := Aside0.mk (show NX 2 t ⟨2, 0, L2, 0, [], 0⟩ none from NXA.out)
            have x0 := B9.out.cell 0 _ rfl
            have x1 := B9.out.cell 1 _ rfl
            have x2 := B9.out.cell 2 _ rfl
            have x3 := B9.out.cell 3 _ rfl
            have x4 := B9.out.cell 4 _ rfl
            have x5 := B9.out.cell 5 _ rfl
            obtain ⟨A5, c5, l5, hr5⟩ := X9.out
            have c1 := hr5.c1
            have f1 := hr5.f1
            have HR5 := Aside0.mk hr5
            clear hr5
            go_upto_region 26 with (fail)
            have X6 : Rs w0 (w9.setCell ⟨rb, 1, none⟩ (.bool true)) rb (outS none false) := ⟨_, _, _, HR5.out.mark true⟩
            have O56 := (Only.refl (fun k => k = rb) w9).setCell (ad := ⟨rb, 1, none⟩) rfl (.bool true)
            have STP := Aside0.mk (fr_step FX.out (b := false) (fun q => (by cases q)) HFF.out HFS.out)
            have hz := HZ3.out
            have hz9 := Z9.out
            have B6 := Aside0.mk (B9.out.only O56 (by omega))
            have hRBt := HRB.out
            have HW11 := Aside0.mk (HW9.out.trans (O56.below HW9.out.size (fun k q => by omega)))
            clear hRBt
            have R6 := Aside0.mk (R_keep3 R9.out O56 (fun k q => .inl (by omega)))
            have HG2 := Aside0.mk (R_keep3 G2.out O56 (fun k q => .inl (by omega)))
            have HX6 := Aside0.mk X6
            have HZ6 := Aside0.mk (show wr.heap.size ≤ (w9.setCell ⟨rb, 1, none⟩ (.bool true)).heap.size from Nat.le_trans hz9 O56.size)
            clear x0 x1 x2 x3 x4 x5 X6 O56 hz hz9
            try clear c1 f1
            try clear c1
            try clear c16 f16
            generalize w9.setCell ⟨rb, 1, none⟩ (.bool true) = w11 at *
            have x0 := B6.out.cell 0 _ rfl
            have x1 := B6.out.cell 1 _ rfl
            have x2 := B6.out.cell 2 _ rfl
            have x3 := B6.out.cell 3 _ rfl
            have x4 := B6.out.cell 4 _ rfl
            have x5 := B6.out.cell 5 _ rfl
            go_wp2_with ((with_reducible refine gate_builtin (b := .append) (xs := #[.tmp 106, .tmp 108]) rfl ?_); at_builtin; refine Kd.R_append (kmx w0) (w0 := w11) (rb + 1) rfl (.tmp 106) (.tmp 108) 52 62 (.agg #[.int .i64 0, .int .i64 0, .slice none 0 0, .int .i64 0, .slice none 0 0, .int .i64 0]) 80 rfl Tryd.underlying52 info62 rfl (show 0 < 6 by decide) (by omega) (.slice Av nv cv_) L (⟨2, 0, L2, 0, [], 0⟩ : S62) [.int .i64 2, .int .i64 0, .slice A2' n2 c2', .int .i64 0, .slice none 0 0, .int .i64 0] (fun _ => True) (fun j => wr.heap.size ≤ j) rfl rfl (kmx_mkM _ _ _ _ (⟨2, 0, L2, 0, [], 0⟩ : S62) HG2.out G4.out) (fun j hj => ⟨trivial, fun e => by have := HLT.out j e.symm; omega⟩) ?aF ?aO ?aB ?aS ?aL ?_; (case aF => exact fun _ _ => trivial); (case aO => exact Kd.R_mono R6.out (fun _ _ => trivial)); (case aB => exact Below.refl _ _); (case aS => have h1 := HZ6.out; have h2 := HZ3.out; omega); (case aL => have h1 := HLN.out; have h2 := HL.out; have h3 := HNV.out; omega); intro v1 w12 hR7 hb7 hg7 hat7; obtain ⟨A9, c9, e9⟩ := Kd.R_slice hR7; obtain ⟨n9, hn9⟩ : ∃ n9, (L ++ [(⟨2, 0, L2, 0, [], 0⟩ : S62)]).length = n9 := ⟨_, rfl⟩; rw [hn9] at e9; clear hn9; subst e9; have ho7 : Only (fun k => rb + 1 ≤ k) w11 w12 := (Only.refl _ w11).grown hg7 (fun k e => .inl (Kd.R_base R6.out k e)); have hRB := HRB.out; have R7 := Aside0.mk hR7; have X7 := Aside0.mk (HX6.out.only ho7 (by omega) (fun k q => by have := HB0.out; omega)); have O7 := Aside0.mk ho7.size; have W7 := Aside0.mk (HW11.out.trans (ho7.below HW11.out.size (fun k q => by omega))); clear hR7 hb7 hg7 hat7 ho7 hRB)
            go_roundg (t.length + 1)
            case measure => have h2 := HG.out; simp [meas] at h2; omega
            case rel =>
              exact ⟨(outS none false), L ++ [⟨2, 0, L2, 0, [], 0⟩], STP.out.2.1, ⟨STP.out.1⟩, ⟨STP.out.2.2⟩, X7, R7, W7, ⟨by have h1 := O7.out; have h2 := HZ6.out; have h3 := HZ3.out; omega⟩, ⟨by have h1 := STP.out.2.1; have h2 := HLN.out; simp [meas] at h2; rw [List.length_append]; simp; omega⟩⟩
          | some y =>
            have FX := Aside0.mk (show NX 2 t ⟨2, 0, L2, 0, [], 0⟩ (some y) from NXA.out)
            have x0 := B9.out.cell 0 _ rfl
            have x1 := B9.out.cell 1 _ rfl
            have x2 := B9.out.cell 2 _ rfl
            have x3 := B9.out.cell 3 _ rfl
            have x4 := B9.out.cell 4 _ rfl
            have x5 := B9.out.cell 5 _ rfl
            obtain ⟨A5, c5, hr5⟩ := X9.out.some_
            have c1 := hr5.c1
            obtain ⟨b, hb, hrt⟩ := right_of (w0 := w0) (⟨2, 0, L2, 0, [], 0⟩ : S62) G2.out G4.out hr5.bl (by first | exact GL.out | simp) (by simp [Shp])
            have HBB := Aside0.mk hb
            have HRT := Aside0.mk hrt
            clear hr5 hb hrt
            go_upto_region 26 with (go_at_call 44; refine HRT.out.mono ?_; rintro e1 w10 ⟨rfl, hb⟩; have HX10 := Aside0.mk (X9.out.below hb); have HO10 := Aside0.mk (Only.of_below (p := fun k => k = rb) hb); obtain ⟨A6, c6, hr6⟩ := HX10.out.some_; have c16 := hr6.c1; have f16 := hr6.f1; have HR6 := Aside0.mk hr6; clear hb hr6)
            have X6 : Rs w0 (w10.setCell ⟨rb, 1, none⟩ (.bool (!b))) rb (outS (some y) b) := mark_out HR6.out b
            have O56 := (HO10.out).setCell (ad := ⟨rb, 1, none⟩) rfl (.bool (!b))
            have STP := Aside0.mk (fr_step FX.out (fun _ => HBB.out) HFF.out HFS.out)
            have hz := HZ3.out
            have hz9 := Z9.out
            have B6 := Aside0.mk (B9.out.only O56 (by omega))
            have hRBt := HRB.out
            have HW11 := Aside0.mk (HW9.out.trans (O56.below HW9.out.size (fun k q => by omega)))
            clear hRBt
            have R6 := Aside0.mk (R_keep3 R9.out O56 (fun k q => .inl (by omega)))
            have HG2 := Aside0.mk (R_keep3 G2.out O56 (fun k q => .inl (by omega)))
            have HX6 := Aside0.mk X6
            have HZ6 := Aside0.mk (show wr.heap.size ≤ (w10.setCell ⟨rb, 1, none⟩ (.bool (!b))).heap.size from Nat.le_trans hz9 O56.size)
            clear x0 x1 x2 x3 x4 x5 X6 O56 hz hz9
            try clear c1 f1
            try clear c1
            try clear c16 f16
            generalize w10.setCell ⟨rb, 1, none⟩ (.bool (!b)) = w11 at *
            have x0 := B6.out.cell 0 _ rfl
            have x1 := B6.out.cell 1 _ rfl
            have x2 := B6.out.cell 2 _ rfl
            have x3 := B6.out.cell 3 _ rfl
            have x4 := B6.out.cell 4 _ rfl
            have x5 := B6.out.cell 5 _ rfl
            go_wp2_with ((with_reducible refine gate_builtin (b := .append) (xs := #[.tmp 106, .tmp 108]) rfl ?_); at_builtin; refine Kd.R_append (kmx w0) (w0 := w11) (rb + 1) rfl (.tmp 106) (.tmp 108) 52 62 (.agg #[.int .i64 0, .int .i64 0, .slice none 0 0, .int .i64 0, .slice none 0 0, .int .i64 0]) 80 rfl Tryd.underlying52 info62 rfl (show 0 < 6 by decide) (by omega) (.slice Av nv cv_) L (⟨2, 0, L2, 0, [], 0⟩ : S62) [.int .i64 2, .int .i64 0, .slice A2' n2 c2', .int .i64 0, .slice none 0 0, .int .i64 0] (fun _ => True) (fun j => wr.heap.size ≤ j) rfl rfl (kmx_mkM _ _ _ _ (⟨2, 0, L2, 0, [], 0⟩ : S62) HG2.out G4.out) (fun j hj => ⟨trivial, fun e => by have := HLT.out j e.symm; omega⟩) ?aF ?aO ?aB ?aS ?aL ?_; (case aF => exact fun _ _ => trivial); (case aO => exact Kd.R_mono R6.out (fun _ _ => trivial)); (case aB => exact Below.refl _ _); (case aS => have h1 := HZ6.out; have h2 := HZ3.out; omega); (case aL => have h1 := HLN.out; have h2 := HL.out; have h3 := HNV.out; omega); intro v1 w12 hR7 hb7 hg7 hat7; obtain ⟨A9, c9, e9⟩ := Kd.R_slice hR7; obtain ⟨n9, hn9⟩ : ∃ n9, (L ++ [(⟨2, 0, L2, 0, [], 0⟩ : S62)]).length = n9 := ⟨_, rfl⟩; rw [hn9] at e9; clear hn9; subst e9; have ho7 : Only (fun k => rb + 1 ≤ k) w11 w12 := (Only.refl _ w11).grown hg7 (fun k e => .inl (Kd.R_base R6.out k e)); have hRB := HRB.out; have R7 := Aside0.mk hR7; have X7 := Aside0.mk (HX6.out.only ho7 (by omega) (fun k q => by have := HB0.out; omega)); have O7 := Aside0.mk ho7.size; have W7 := Aside0.mk (HW11.out.trans (ho7.below HW11.out.size (fun k q => by omega))); clear hR7 hb7 hg7 hat7 ho7 hRB)
            go_roundg (t.length + 1)
            case measure => have h2 := HG.out; simp [meas] at h2; omega
            case rel =>
              exact ⟨(outS (some y) b), L ++ [⟨2, 0, L2, 0, [], 0⟩], STP.out.2.1, ⟨STP.out.1⟩, ⟨STP.out.2.2⟩, X7, R7, W7, ⟨by have h1 := O7.out; have h2 := HZ6.out; have h3 := HZ3.out; omega⟩, ⟨by have h1 := STP.out.2.1; have h2 := HLN.out; simp [meas] at h2; rw [List.length_append]; simp; omega⟩⟩
        by_cases k0 : k = 0
        · subst k0
          have g1 := HB3.out.cell 1 _ rfl
          have h1 := HB3.out.frozen 1
          go_upto_region 10 with (fail)
          have hz := HZ3.out
          have hRB := HRB.out
          have HX4 := Aside0.mk (HX3.out.far (a := ⟨fb, 1, none⟩) (by show fb ≠ rb; omega) (by show w0.heap.size ≤ fb; have := HB0.out; omega) (.int .i64 1))
          have HB4 := Aside0.mk (HB3.out.set 1 (.int .i64 1))
          have HO4 := Aside0.mk (HO3.out.setCell (ad := ⟨fb, 1, none⟩) (.inr rfl) (.int .i64 1))
          have HLN2 := HLN.out
          have HL2 := HL.out
          have HTL := Aside0.mk (show t.length ≤ 1200 by simp [meas] at HLN2; omega)
          clear g1 h1 hz hRB HLN2 HL2
          generalize w3.setCell ⟨fb, 1, none⟩ (.int .i64 1) = w4 at *
          generalize wr = wq at *
          go_loopg [] t.length (fun gg wr => ∃ (x : List Int) (n : Nat), x.length ≤ gg ∧ Aside0 (Bk wr fb [.int .i64 0, .int .i64 n, .slice none 0 0, .int .i64 0, .slice none 0 0, .int .i64 0]) ∧ Aside0 (Rs w0 wr rb (some x)) ∧ Aside0 (Only (fun k => k = rb ∨ k = fb) w3 wr) ∧ Aside0 ((padF x).1 + n = (padF t).1 + 1 ∧ (padF x).2 = (padF t).2) ∧ Aside0 (n + x.length ≤ 1300))
          case atStart => exact ⟨t, 1, Nat.le_refl _, HB4, HX4, HO4, ⟨rfl, rfl⟩, ⟨by have := HTL.out; omega⟩⟩
          case round =>
            obtain ⟨x, n, hg, HB5, HX5, HO5, HPD, HNL⟩ := hrel
            have HGI := Aside0.mk hg
            clear hg HX4 HB4 HO4
            obtain ⟨A2, c2, hr⟩ := HX5.out
            have c0 := hr.c0
            cases x with
            | nil =>
              have c0' : wr.cell? ⟨rb, 0, none⟩ = some (.slice A2 0 c2) := c0
              clear c0 hr
              go_upto_region 25 with (fail)
              have NXZ := Aside0.mk (show NX 0 t ⟨0, (n : Int), [], 0, [], 0⟩ (some []) by have h1 := nx_pad t; have h2 := HPD.out; rw [← h2.2] at h1; rw [show (n : Int) = ((padF t).1 : Int) + 1 by have := h2.1; simp [padF] at this; omega]; exact h1)
              clear c0'
              have X9 := HX5
              have B9 := HB5
              have hz := HZ3.out
              have R9 := Aside0.mk (R_keep3 HR3.out HO5.out (fun k q => by rcases q with q | q; exact .inl (by omega); exact .inr (by omega)))
              have Z9 := Aside0.mk (Nat.le_trans (show wq.heap.size ≤ w3.heap.size by omega) HO5.out.size)
              have hRBd := HRB.out
              have HW9 := Aside0.mk (HW3.out.trans (HO5.out.below HW3.out.size (fun k q => by omega)))
              clear hz hRBd HX5 HB5 HO5
              try clear g0
              generalize wr = w9 at *
              have G2 := Aside0.mk (show Kd.R k102 102 w9 (rb + 1) (fun j => wq.heap.size ≤ j) (.slice none 0 0) ([] : List S102) from Kd.R_nil _ _ _ _ _)
              have G4 := Aside0.mk (row0_nil w0)
              have FX := Aside0.mk (show NX 0 t ⟨0, (n : Int), [], 0, [], 0⟩ (some []) from NXZ.out)
              have x0 := B9.out.cell 0 _ rfl
              have x1 := B9.out.cell 1 _ rfl
              have x2 := B9.out.cell 2 _ rfl
              have x3 := B9.out.cell 3 _ rfl
              have x4 := B9.out.cell 4 _ rfl
              have x5 := B9.out.cell 5 _ rfl
              obtain ⟨A5, c5, hr5⟩ := X9.out.some_
              have c1 := hr5.c1
              obtain ⟨b, hb, hrt⟩ := right_of (w0 := w0) (⟨0, (n : Int), [], 0, [], 0⟩ : S62) G2.out G4.out hr5.bl (by first | exact GL.out | simp) (by simp [Shp])
              have HBB := Aside0.mk hb
              have HRT := Aside0.mk hrt
              clear hr5 hb hrt
              go_upto_region 26 with (go_at_call 44; refine HRT.out.mono ?_; rintro e1 w10 ⟨rfl, hb⟩; have HX10 := Aside0.mk (X9.out.below hb); have HO10 := Aside0.mk (Only.of_below (p := fun k => k = rb) hb); obtain ⟨A6, c6, hr6⟩ := HX10.out.some_; have c16 := hr6.c1; have f16 := hr6.f1; have HR6 := Aside0.mk hr6; clear hb hr6)
              have X6 : Rs w0 (w10.setCell ⟨rb, 1, none⟩ (.bool (!b))) rb (outS (some []) b) := mark_out HR6.out b
              have O56 := (HO10.out).setCell (ad := ⟨rb, 1, none⟩) rfl (.bool (!b))
              have STP := Aside0.mk (fr_step FX.out (fun _ => HBB.out) HFF.out HFS.out)
              have hz := HZ3.out
              have hz9 := Z9.out
              have B6 := Aside0.mk (B9.out.only O56 (by omega))
              have hRBt := HRB.out
              have HW11 := Aside0.mk (HW9.out.trans (O56.below HW9.out.size (fun k q => by omega)))
              clear hRBt
              have R6 := Aside0.mk (R_keep3 R9.out O56 (fun k q => .inl (by omega)))
              have HG2 := Aside0.mk (R_keep3 G2.out O56 (fun k q => .inl (by omega)))
              have HX6 := Aside0.mk X6
              have HZ6 := Aside0.mk (show wq.heap.size ≤ (w10.setCell ⟨rb, 1, none⟩ (.bool (!b))).heap.size from Nat.le_trans hz9 O56.size)
              clear x0 x1 x2 x3 x4 x5 X6 O56 hz hz9
              try clear c1 f1
              try clear c1
              try clear c16 f16
              generalize w10.setCell ⟨rb, 1, none⟩ (.bool (!b)) = w11 at *
              have x0 := B6.out.cell 0 _ rfl
              have x1 := B6.out.cell 1 _ rfl
              have x2 := B6.out.cell 2 _ rfl
              have x3 := B6.out.cell 3 _ rfl
              have x4 := B6.out.cell 4 _ rfl
              have x5 := B6.out.cell 5 _ rfl
              go_wp2_with ((with_reducible refine gate_builtin (b := .append) (xs := #[.tmp 106, .tmp 108]) rfl ?_); at_builtin; refine Kd.R_append (kmx w0) (w0 := w11) (rb + 1) rfl (.tmp 106) (.tmp 108) 52 62 (.agg #[.int .i64 0, .int .i64 0, .slice none 0 0, .int .i64 0, .slice none 0 0, .int .i64 0]) 80 rfl Tryd.underlying52 info62 rfl (show 0 < 6 by decide) (by omega) (.slice Av nv cv_) L (⟨0, (n : Int), [], 0, [], 0⟩ : S62) [.int .i64 0, .int .i64 (n : Int), .slice none 0 0, .int .i64 0, .slice none 0 0, .int .i64 0] (fun _ => True) (fun j => wq.heap.size ≤ j) rfl rfl (kmx_mkM _ _ _ _ (⟨0, (n : Int), [], 0, [], 0⟩ : S62) HG2.out G4.out) (fun j hj => ⟨trivial, fun e => by have := HLT.out j e.symm; omega⟩) ?aF ?aO ?aB ?aS ?aL ?_; (case aF => exact fun _ _ => trivial); (case aO => exact Kd.R_mono R6.out (fun _ _ => trivial)); (case aB => exact Below.refl _ _); (case aS => have h1 := HZ6.out; have h2 := HZ3.out; omega); (case aL => have h1 := HLN.out; have h2 := HL.out; have h3 := HNV.out; omega); intro v1 w12 hR7 hb7 hg7 hat7; obtain ⟨A9, c9, e9⟩ := Kd.R_slice hR7; obtain ⟨n9, hn9⟩ : ∃ n9, (L ++ [(⟨0, (n : Int), [], 0, [], 0⟩ : S62)]).length = n9 := ⟨_, rfl⟩; rw [hn9] at e9; clear hn9; subst e9; have ho7 : Only (fun k => rb + 1 ≤ k) w11 w12 := (Only.refl _ w11).grown hg7 (fun k e => .inl (Kd.R_base R6.out k e)); have hRB := HRB.out; have R7 := Aside0.mk hR7; have X7 := Aside0.mk (HX6.out.only ho7 (by omega) (fun k q => by have := HB0.out; omega)); have O7 := Aside0.mk ho7.size; have W7 := Aside0.mk (HW11.out.trans (ho7.below HW11.out.size (fun k q => by omega))); clear hR7 hb7 hg7 hat7 ho7 hRB)
              go_roundg (t.length + 1)
              case measure => have h2 := HG.out; simp [meas] at h2; omega
              case rel =>
                exact ⟨(outS (some []) b), L ++ [⟨0, (n : Int), [], 0, [], 0⟩], STP.out.2.1, ⟨STP.out.1⟩, ⟨STP.out.2.2⟩, X7, R7, W7, ⟨by have h1 := O7.out; have h2 := HZ6.out; have h3 := HZ3.out; omega⟩, ⟨by have h1 := STP.out.2.1; have h2 := HLN.out; simp [meas] at h2; rw [List.length_append]; simp; omega⟩⟩
            | cons z x =>
              obtain ⟨ad, rfl, y0⟩ := Kd.at_int (Kd.C_below hr.C hr.bl) 0 (by omega) (by simp)
              have z0 : wr.cell? ad = some (.int .u8 z) := by simpa [Addr.add, rd] using y0
              obtain ⟨m, hm⟩ : ∃ m, (z :: x).length = m := ⟨_, rfl⟩
              rw [hm] at c0
              have q0 : decide ((0 : Int) < (m : Int)) = true := decide_eq_true (by rw [← hm]; simp)
              have q1 : decide (0 < m) = true := decide_eq_true (by rw [← hm]; simp)
              have q2 : (0 : Int) < (m : Int) := of_decide_eq_true q0
              have q3 : 0 < m := of_decide_eq_true q1
              clear hr y0 hm
              by_cases hzz : z = 0
              · subst hzz
                have EB := Aside0.mk (show bytS (some (0 :: x)) 1 = ([0], some x) by unfold bytS; rw [Option.bind_some, rbyt_one])
                have e2 : wrap64 ((n : Int) + 1) = ((n + 1 : Nat) : Int) := by have := HNL.out; unfold wrap64; omega
                go_wp2_with (go_at_call 81; refine (bytes_of HX5.out (show (0 : Int) ≤ 1 by decide) EB.out).mono ?_; rintro e1 w6 ⟨v1, rfl, ⟨A1, c1_, rfl, hC1, hl1⟩, hx, ho⟩; have hz := HZ3.out; have hRB := HRB.out; have Ba := HB5.out.only ho (by omega); have g1 := Ba.cell 1 _ rfl; have h1 := Ba.frozen 1; have HX6 := Aside0.mk (hx.far (a := ⟨fb, 1, none⟩) (by show fb ≠ rb; omega) (by show w0.heap.size ≤ fb; have := HB0.out; omega) (.int .i64 ((n + 1 : Nat) : Int))); have HB6 := Aside0.mk (Ba.set 1 (.int .i64 ((n + 1 : Nat) : Int))); have HO6 := Aside0.mk ((HO5.out.trans (own_ab (fb := fb) ho)).setCell (ad := ⟨fb, 1, none⟩) (.inr rfl) (.int .i64 ((n + 1 : Nat) : Int))); clear hx ho Ba hz hRB hC1 hl1)
                go_roundg x.length
                case measure => have h1 := HGI.out; simp at h1; omega
                case rel =>
                  try rw [e2]
                  exact ⟨x, n + 1, Nat.le_refl _, HB6, HX6, HO6, ⟨by have h1 := HPD.out; rw [padF, if_pos rfl] at h1; exact ⟨by have := h1.1; simp at this ⊢; omega, h1.2⟩⟩, ⟨by have h1 := HNL.out; simp at h1; omega⟩⟩
              have n0 : (z == 0) = false := by simpa using hzz
              have n1 : decide (z = 0) = false := decide_eq_false hzz
              have HZN := Aside0.mk hzz
              clear hzz
              go_upto_region 25 with (fail)
              have NXZ := Aside0.mk (show NX 0 t ⟨0, (n : Int), [], 0, [], 0⟩ (some (z :: x)) by have h1 := nx_pad t; have h2 := HPD.out; rw [padF, if_neg HZN.out] at h2; simp only [] at h2; rw [← h2.2] at h1; rw [show (n : Int) = ((padF t).1 : Int) + 1 by have := h2.1; omega]; exact h1)
              clear c0 z0 q0 q1 q2 q3 n0 n1
              have X9 := HX5
              have B9 := HB5
              have hz := HZ3.out
              have R9 := Aside0.mk (R_keep3 HR3.out HO5.out (fun k q => by rcases q with q | q; exact .inl (by omega); exact .inr (by omega)))
              have Z9 := Aside0.mk (Nat.le_trans (show wq.heap.size ≤ w3.heap.size by omega) HO5.out.size)
              have hRBd := HRB.out
              have HW9 := Aside0.mk (HW3.out.trans (HO5.out.below HW3.out.size (fun k q => by omega)))
              clear hz hRBd HX5 HB5 HO5
              try clear g0
              generalize wr = w9 at *
              have G2 := Aside0.mk (show Kd.R k102 102 w9 (rb + 1) (fun j => wq.heap.size ≤ j) (.slice none 0 0) ([] : List S102) from Kd.R_nil _ _ _ _ _)
              have G4 := Aside0.mk (row0_nil w0)
              have FX := Aside0.mk (show NX 0 t ⟨0, (n : Int), [], 0, [], 0⟩ (some (z :: x)) from NXZ.out)
              have x0 := B9.out.cell 0 _ rfl
              have x1 := B9.out.cell 1 _ rfl
              have x2 := B9.out.cell 2 _ rfl
              have x3 := B9.out.cell 3 _ rfl
              have x4 := B9.out.cell 4 _ rfl
              have x5 := B9.out.cell 5 _ rfl
              obtain ⟨A5, c5, hr5⟩ := X9.out.some_
              have c1 := hr5.c1
              obtain ⟨b, hb, hrt⟩ := right_of (w0 := w0) (⟨0, (n : Int), [], 0, [], 0⟩ : S62) G2.out G4.out hr5.bl (by first | exact GL.out | simp) (by simp [Shp])
              have HBB := Aside0.mk hb
              have HRT := Aside0.mk hrt
              clear hr5 hb hrt
              go_upto_region 26 with (go_at_call 44; refine HRT.out.mono ?_; rintro e1 w10 ⟨rfl, hb⟩; have HX10 := Aside0.mk (X9.out.below hb); have HO10 := Aside0.mk (Only.of_below (p := fun k => k = rb) hb); obtain ⟨A6, c6, hr6⟩ := HX10.out.some_; have c16 := hr6.c1; have f16 := hr6.f1; have HR6 := Aside0.mk hr6; clear hb hr6)
              have X6 : Rs w0 (w10.setCell ⟨rb, 1, none⟩ (.bool (!b))) rb (outS (some (z :: x)) b) := mark_out HR6.out b
              have O56 := (HO10.out).setCell (ad := ⟨rb, 1, none⟩) rfl (.bool (!b))
              have STP := Aside0.mk (fr_step FX.out (fun _ => HBB.out) HFF.out HFS.out)
              have hz := HZ3.out
              have hz9 := Z9.out
              have B6 := Aside0.mk (B9.out.only O56 (by omega))
              have hRBt := HRB.out
              have HW11 := Aside0.mk (HW9.out.trans (O56.below HW9.out.size (fun k q => by omega)))
              clear hRBt
              have R6 := Aside0.mk (R_keep3 R9.out O56 (fun k q => .inl (by omega)))
              have HG2 := Aside0.mk (R_keep3 G2.out O56 (fun k q => .inl (by omega)))
              have HX6 := Aside0.mk X6
              have HZ6 := Aside0.mk (show wq.heap.size ≤ (w10.setCell ⟨rb, 1, none⟩ (.bool (!b))).heap.size from Nat.le_trans hz9 O56.size)
              clear x0 x1 x2 x3 x4 x5 X6 O56 hz hz9
              try clear c1 f1
              try clear c1
              try clear c16 f16
              generalize w10.setCell ⟨rb, 1, none⟩ (.bool (!b)) = w11 at *
              have x0 := B6.out.cell 0 _ rfl
              have x1 := B6.out.cell 1 _ rfl
              have x2 := B6.out.cell 2 _ rfl
              have x3 := B6.out.cell 3 _ rfl
              have x4 := B6.out.cell 4 _ rfl
              have x5 := B6.out.cell 5 _ rfl
              go_wp2_with ((with_reducible refine gate_builtin (b := .append) (xs := #[.tmp 106, .tmp 108]) rfl ?_); at_builtin; refine Kd.R_append (kmx w0) (w0 := w11) (rb + 1) rfl (.tmp 106) (.tmp 108) 52 62 (.agg #[.int .i64 0, .int .i64 0, .slice none 0 0, .int .i64 0, .slice none 0 0, .int .i64 0]) 80 rfl Tryd.underlying52 info62 rfl (show 0 < 6 by decide) (by omega) (.slice Av nv cv_) L (⟨0, (n : Int), [], 0, [], 0⟩ : S62) [.int .i64 0, .int .i64 (n : Int), .slice none 0 0, .int .i64 0, .slice none 0 0, .int .i64 0] (fun _ => True) (fun j => wq.heap.size ≤ j) rfl rfl (kmx_mkM _ _ _ _ (⟨0, (n : Int), [], 0, [], 0⟩ : S62) HG2.out G4.out) (fun j hj => ⟨trivial, fun e => by have := HLT.out j e.symm; omega⟩) ?aF ?aO ?aB ?aS ?aL ?_; (case aF => exact fun _ _ => trivial); (case aO => exact Kd.R_mono R6.out (fun _ _ => trivial)); (case aB => exact Below.refl _ _); (case aS => have h1 := HZ6.out; have h2 := HZ3.out; omega); (case aL => have h1 := HLN.out; have h2 := HL.out; have h3 := HNV.out; omega); intro v1 w12 hR7 hb7 hg7 hat7; obtain ⟨A9, c9, e9⟩ := Kd.R_slice hR7; obtain ⟨n9, hn9⟩ : ∃ n9, (L ++ [(⟨0, (n : Int), [], 0, [], 0⟩ : S62)]).length = n9 := ⟨_, rfl⟩; rw [hn9] at e9; clear hn9; subst e9; have ho7 : Only (fun k => rb + 1 ≤ k) w11 w12 := (Only.refl _ w11).grown hg7 (fun k e => .inl (Kd.R_base R6.out k e)); have hRB := HRB.out; have R7 := Aside0.mk hR7; have X7 := Aside0.mk (HX6.out.only ho7 (by omega) (fun k q => by have := HB0.out; omega)); have O7 := Aside0.mk ho7.size; have W7 := Aside0.mk (HW11.out.trans (ho7.below HW11.out.size (fun k q => by omega))); clear hR7 hb7 hg7 hat7 ho7 hRB)
              go_roundg (t.length + 1)
              case measure => have h2 := HG.out; simp [meas] at h2; omega
              case rel =>
                exact ⟨(outS (some (z :: x)) b), L ++ [⟨0, (n : Int), [], 0, [], 0⟩], STP.out.2.1, ⟨STP.out.1⟩, ⟨STP.out.2.2⟩, X7, R7, W7, ⟨by have h1 := O7.out; have h2 := HZ6.out; have h3 := HZ3.out; omega⟩, ⟨by have h1 := STP.out.2.1; have h2 := HLN.out; simp [meas] at h2; rw [List.length_append]; simp; omega⟩⟩
        have HKE := Aside0.mk (And.intro k0 (And.intro k2 (And.intro k6 (And.intro k7 (And.intro k8 k28)))))
        have b0 : (k == 0) = false := by simpa using k0
        have n0 : decide (k = 0) = false := decide_eq_false k0
        have b2 : (k == 2) = false := by simpa using k2
        have n2 : decide (k = 2) = false := decide_eq_false k2
        have b6 : (k == 6) = false := by simpa using k6
        have n6 : decide (k = 6) = false := decide_eq_false k6
        have b7 : (k == 7) = false := by simpa using k7
        have n7 : decide (k = 7) = false := decide_eq_false k7
        have b8 : (k == 8) = false := by simpa using k8
        have n8 : decide (k = 8) = false := decide_eq_false k8
        have b28 : (k == 28) = false := by simpa using k28
        have n28 : decide (k = 28) = false := decide_eq_false k28
        go_upto_region 25 with (fail)
        clear b0 n0 k0 b2 n2 k2 b6 n6 k6 b7 n7 k7 b8 n8 k8 b28 n28 k28
        have X9 := HX3
        have B9 := HB3
        have hz := HZ3.out
        have R9 := Aside0.mk (R_keep3 HR3.out HO3.out (fun k q => by rcases q with q | q; exact .inl (by omega); exact .inr (by omega)))
        have Z9 := Aside0.mk (Nat.le_trans (show wr.heap.size ≤ w3.heap.size by omega) HO3.out.size)
        have hRBd := HRB.out
        have HW9 := Aside0.mk (HW3.out.trans (HO3.out.below HW3.out.size (fun k q => by omega)))
        clear hz hRBd HX3 HB3 HO3
        try clear g0
        try clear g1 h1
        try clear g2 h2
        try clear g3 h3
        try clear g4 h4
        try clear g5 h5
        generalize w3 = w9 at *
        have G2 := Aside0.mk (show Kd.R k102 102 w9 (rb + 1) (fun j => wr.heap.size ≤ j) (.slice none 0 0) ([] : List S102) from Kd.R_nil _ _ _ _ _)
        have G4 := Aside0.mk (row0_nil w0)
        have FX := Aside0.mk (show NX k t ⟨k, 0, [], 0, [], 0⟩ (some t) from nx_else k t HKE.out)
        have x0 := B9.out.cell 0 _ rfl
        have x1 := B9.out.cell 1 _ rfl
        have x2 := B9.out.cell 2 _ rfl
        have x3 := B9.out.cell 3 _ rfl
        have x4 := B9.out.cell 4 _ rfl
        have x5 := B9.out.cell 5 _ rfl
        obtain ⟨A5, c5, hr5⟩ := X9.out.some_
        have c1 := hr5.c1
        obtain ⟨b, hb, hrt⟩ := right_of (w0 := w0) (⟨k, 0, [], 0, [], 0⟩ : S62) G2.out G4.out hr5.bl (by first | exact GL.out | simp) (by simp [Shp])
        have HBB := Aside0.mk hb
        have HRT := Aside0.mk hrt
        clear hr5 hb hrt
        go_upto_region 26 with (go_at_call 44; refine HRT.out.mono ?_; rintro e1 w10 ⟨rfl, hb⟩; have HX10 := Aside0.mk (X9.out.below hb); have HO10 := Aside0.mk (Only.of_below (p := fun k => k = rb) hb); obtain ⟨A6, c6, hr6⟩ := HX10.out.some_; have c16 := hr6.c1; have f16 := hr6.f1; have HR6 := Aside0.mk hr6; clear hb hr6)
        have X6 : Rs w0 (w10.setCell ⟨rb, 1, none⟩ (.bool (!b))) rb (outS (some t) b) := mark_out HR6.out b
        have O56 := (HO10.out).setCell (ad := ⟨rb, 1, none⟩) rfl (.bool (!b))
        have STP := Aside0.mk (fr_step FX.out (fun _ => HBB.out) HFF.out HFS.out)
        have hz := HZ3.out
        have hz9 := Z9.out
        have B6 := Aside0.mk (B9.out.only O56 (by omega))
        have hRBt := HRB.out
        have HW11 := Aside0.mk (HW9.out.trans (O56.below HW9.out.size (fun k q => by omega)))
        clear hRBt
        have R6 := Aside0.mk (R_keep3 R9.out O56 (fun k q => .inl (by omega)))
        have HG2 := Aside0.mk (R_keep3 G2.out O56 (fun k q => .inl (by omega)))
        have HX6 := Aside0.mk X6
        have HZ6 := Aside0.mk (show wr.heap.size ≤ (w10.setCell ⟨rb, 1, none⟩ (.bool (!b))).heap.size from Nat.le_trans hz9 O56.size)
        clear x0 x1 x2 x3 x4 x5 X6 O56 hz hz9
        try clear c1 f1
        try clear c1
        try clear c16 f16
        generalize w10.setCell ⟨rb, 1, none⟩ (.bool (!b)) = w11 at *
        have x0 := B6.out.cell 0 _ rfl
        have x1 := B6.out.cell 1 _ rfl
        have x2 := B6.out.cell 2 _ rfl
        have x3 := B6.out.cell 3 _ rfl
        have x4 := B6.out.cell 4 _ rfl
        have x5 := B6.out.cell 5 _ rfl
        go_wp2_with ((with_reducible refine gate_builtin (b := .append) (xs := #[.tmp 106, .tmp 108]) rfl ?_); at_builtin; refine Kd.R_append (kmx w0) (w0 := w11) (rb + 1) rfl (.tmp 106) (.tmp 108) 52 62 (.agg #[.int .i64 0, .int .i64 0, .slice none 0 0, .int .i64 0, .slice none 0 0, .int .i64 0]) 80 rfl Tryd.underlying52 info62 rfl (show 0 < 6 by decide) (by omega) (.slice Av nv cv_) L (⟨k, 0, [], 0, [], 0⟩ : S62) [.int .i64 k, .int .i64 0, .slice none 0 0, .int .i64 0, .slice none 0 0, .int .i64 0] (fun _ => True) (fun j => wr.heap.size ≤ j) rfl rfl (kmx_mkM _ _ _ _ (⟨k, 0, [], 0, [], 0⟩ : S62) HG2.out G4.out) (fun j hj => ⟨trivial, fun e => by have := HLT.out j e.symm; omega⟩) ?aF ?aO ?aB ?aS ?aL ?_; (case aF => exact fun _ _ => trivial); (case aO => exact Kd.R_mono R6.out (fun _ _ => trivial)); (case aB => exact Below.refl _ _); (case aS => have h1 := HZ6.out; have h2 := HZ3.out; omega); (case aL => have h1 := HLN.out; have h2 := HL.out; have h3 := HNV.out; omega); intro v1 w12 hR7 hb7 hg7 hat7; obtain ⟨A9, c9, e9⟩ := Kd.R_slice hR7; obtain ⟨n9, hn9⟩ : ∃ n9, (L ++ [(⟨k, 0, [], 0, [], 0⟩ : S62)]).length = n9 := ⟨_, rfl⟩; rw [hn9] at e9; clear hn9; subst e9; have ho7 : Only (fun k => rb + 1 ≤ k) w11 w12 := (Only.refl _ w11).grown hg7 (fun k e => .inl (Kd.R_base R6.out k e)); have hRB := HRB.out; have R7 := Aside0.mk hR7; have X7 := Aside0.mk (HX6.out.only ho7 (by omega) (fun k q => by have := HB0.out; omega)); have O7 := Aside0.mk ho7.size; have W7 := Aside0.mk (HW11.out.trans (ho7.below HW11.out.size (fun k q => by omega))); clear hR7 hb7 hg7 hat7 ho7 hRB)
        go_roundg (t.length + 1)
        case measure => have h2 := HG.out; simp [meas] at h2; omega
        case rel =>
          exact ⟨(outS (some t) b), L ++ [⟨k, 0, [], 0, [], 0⟩], STP.out.2.1, ⟨STP.out.1⟩, ⟨STP.out.2.2⟩, X7, R7, W7, ⟨by have h1 := O7.out; have h2 := HZ6.out; have h3 := HZ3.out; omega⟩, ⟨by have h1 := STP.out.2.1; have h2 := HLN.out; simp [meas] at h2; rw [List.length_append]; simp; omega⟩⟩
end Go.Proofs.YtbcleckapamicaaDoor.Rf
