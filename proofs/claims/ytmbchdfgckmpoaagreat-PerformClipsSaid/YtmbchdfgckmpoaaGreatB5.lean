/- MaxFunc, MinFunc at played notes. -/
import Derived.Test.YtmbchdfgckmpoaaGreatB4
namespace Go.Proofs.YtmbchdfgckmpoaaGreat
open Go.RowKit Go.Sort

def putY (w : World) (b : Nat) (x : Ply) : World := w.setCells b 0 (encY x)
theorem putY_at {w : World} {b : Nat} {m x : Ply} (h : AtY w b 0 m) : AtY (putY w b x) b 0 x := by
  obtain ⟨m0, m1, m2, m3, m4, m5, m6⟩ := h
  have hs : ∀ j, j < (encY x).length → (w.cell? ⟨b, 0 + j, none⟩).isSome = true := by
    intro j hj
    have hj : j < 7 := by simpa [encY] using hj
    match j, hj with
    | 0, _ => rw [m0]; rfl
    | 1, _ => rw [m1]; rfl
    | 2, _ => rw [m2]; rfl
    | 3, _ => rw [m3]; rfl
    | 4, _ => rw [m4]; rfl
    | 5, _ => rw [m5]; rfl
    | 6, _ => rw [m6]; rfl
  have hi := World.cell?_setCells_in b (encY x) 0 w hs
  exact ⟨(hi 0 (by simp [encY])).trans rfl, (hi 1 (by simp [encY])).trans rfl, (hi 2 (by simp [encY])).trans rfl, (hi 3 (by simp [encY])).trans rfl, (hi 4 (by simp [encY])).trans rfl, (hi 5 (by simp [encY])).trans rfl, (hi 6 (by simp [encY])).trans rfl⟩
theorem putY_below {B : Nat} {a w : World} (h : Below B a w) {b : Nat} (hb : B ≤ b) (x : Ply) : Below B a (putY w b x) :=
  ((((((h.setCell (p := ⟨b, 0, none⟩) hb _).setCell (p := ⟨b, 1, none⟩) hb _).setCell (p := ⟨b, 2, none⟩) hb _).setCell (p := ⟨b, 3, none⟩) hb _).setCell (p := ⟨b, 4, none⟩) hb _).setCell (p := ⟨b, 5, none⟩) hb _).setCell (p := ⟨b, 6, none⟩) hb _
theorem putY_frozen (w : World) (b : Nat) (x : Ply) (p : Addr) : (putY w b x).frozen? p = w.frozen? p := World.frozen?_setCells b _ _ w p
theorem putY_size (w : World) (b : Nat) (x : Ply) : (putY w b x).heap.size = w.heap.size := by simp [putY, encY, World.setCells]
theorem putY_other {w : World} {b c : Nat} {m x : Ply} (h : AtY w c 0 m) (hne : c ≠ b) : AtY (putY w b x) c 0 m := by
  obtain ⟨m0, m1, m2, m3, m4, m5, m6⟩ := h
  have e := fun o => World.cell?_setCells_out b (encY x) 0 w ⟨c, o, none⟩ (fun hc => absurd hc hne)
  exact ⟨(e _).trans m0, (e _).trans m1, (e _).trans m2, (e _).trans m3, (e _).trans m4, (e _).trans m5, (e _).trans m6⟩

def maxF (cf : Ply → Ply → Int) (l : List Ply) : Nat → Ply
  | 0 => nth l 0
  | k + 1 => if 0 < cf (nth l (k + 1)) (maxF cf l k) then nth l (k + 1) else maxF cf l k
set_option maxHeartbeats 4000000 in
theorem maxC (g : Nat) (cf : Ply → Ply → Int) (A : Option Addr) (c : Nat) (l : List Ply) (w : World) (eg : ∀ args w, (callFunc g args).run Tryz.prog w = .ok (.enter g args) w)
    (hg : ∀ x y w, Calls Tryz.prog g #[yV x, yV y] w fun r w' => r = .returned (.int .i64 (cf x y)) ∧ Below w.heap.size w w') (hl : l.length ≤ 1000) (h0 : 0 < l.length) (h : SlY w A l) :
    Calls Tryz.prog 27 #[.slice A l.length c, .func (.func g) #[] #[]] w fun r w' => r = .returned (yV (maxF cf l (l.length - 1))) ∧ Below w.heap.size w w' := by
  generalize hn : l.length = n at *
  obtain ⟨b, off, rfl, hlb, hrd⟩ := h.some (k := 0) (by omega)
  obtain ⟨r0, r1, r2, r3, r4, r5, r6⟩ := hrd 0 (by omega)
  simp only [Nat.zero_mul, Nat.add_zero] at r0 r1 r2 r3 r4 r5 r6
  have hn1 : ¬ (n : Int) < 1 := by omega
  go_enter Tryz.func27, Tryz.ntmps27
  go_wp2_with fail
  go_loopw [6] (fun i wr => ∃ q : Nat, 1 ≤ q ∧ q ≤ n ∧ i = .int .i64 q ∧ AtY wr (w.heap.size + 1) 0 (maxF cf l (q - 1)) ∧ (∃ z, AtY wr w.heap.size 0 z) ∧ Below w.heap.size w wr ∧ w.heap.size + 2 ≤ wr.heap.size ∧ (∀ o, wr.frozen? ⟨w.heap.size + 1, o, none⟩ = false) ∧ (∀ o, wr.frozen? ⟨w.heap.size, o, none⟩ = false)) (fun i _ => n - (intOf i).toNat)
  case atStart =>
    refine ⟨1, by omega, by omega, rfl, (show AtY _ _ _ (nth l 0) from ?_), ⟨⟨0, 0, 0, 0, 0, 0, 0⟩, ?_⟩, by go_grown, by simp, ?_, ?_⟩
    · refine ⟨?_, ?_, ?_, ?_, ?_, ?_, ?_⟩ <;> go_cell
    · refine ⟨?_, ?_, ?_, ?_, ?_, ?_, ?_⟩ <;> go_cell
    · intro o; simp [go_sem]
    · intro o; simp [go_sem]
  case round =>
    obtain ⟨q, hq1, hq, rfl, hat, ⟨z, hz0⟩, hB, hsz, hf1, hf0⟩ := hrel
    by_cases hlt : q < n
    · obtain ⟨s0, s1, s2, s3, s4, s5, s6⟩ := hrd.below hB hlb q (by omega)
      have hat0 := hat
      obtain ⟨m0, m1, m2, m3, m4, m5, m6⟩ := hat0
      have hstep : maxF cf l q = if 0 < cf (nth l q) (maxF cf l (q - 1)) then nth l q else maxF cf l (q - 1) := by
        obtain ⟨p, rfl⟩ : ∃ p, q = p + 1 := ⟨q - 1, by omega⟩
        rfl
      have hstep := Lib.hid hstep
      generalize maxF cf l (q - 1) = m at *
      generalize nth l q = x at *
      have hc := hg x m
      clear hg hrd h
      go_wp2_with fail
      go_region_with (go_at_fn g; refine (hc _).mono ?_; rintro e w' ⟨rfl, hb⟩)
      all_goals
        have hz := hb.size
        rw [World.size_drew] at hz hb
        have hat' := (show AtY wr.drew _ _ _ from hat).below hb (by omega)
        have hz1 := (show AtY wr.drew _ _ _ from hz0).below hb (by omega)
        have hB2 := hB.drew.trans (hb.mono (by omega))
        have g1 : ∀ o, w'.frozen? ⟨w.heap.size + 1, o, none⟩ = false := fun o => (hb.frozen (p := ⟨w.heap.size + 1, o, none⟩) (by simp; omega)).trans (hf1 o)
        have g0 : ∀ o, w'.frozen? ⟨w.heap.size, o, none⟩ = false := fun o => (hb.frozen (p := ⟨w.heap.size, o, none⟩) (by simp; omega)).trans (hf0 o)
        by_cases hcx : 0 < cf x m
        · have f0 := g1 0
          have f1 := g1 1
          have f2 := g1 2
          have f3 := g1 3
          have f4 := g1 4
          have f5 := g1 5
          have f6 := g1 6
          have hY := putY_at (x := x) hat'
          have hY0 := putY_other (b := w.heap.size + 1) (x := x) hz1 (by omega)
          have hP : AtY w' b (off + q * 7) x := (show AtY wr.drew b (off + q * 7) x from ⟨s0, s1, s2, s3, s4, s5, s6⟩).below hb (by omega)
          obtain ⟨s0, s1, s2, s3, s4, s5, s6⟩ := hP
          obtain ⟨m0, m1, m2, m3, m4, m5, m6⟩ := hat'
          simp only [Nat.zero_add] at m0 m1 m2 m3 m4 m5 m6
          have hX := Lib.hid (And.intro hY (And.intro hY0 (And.intro g1 g0)))
          clear hat hc hY hY0 g1 g0 hf1 hf0 hz0 hz1
          go_wp2_with fail
          obtain ⟨hY, hY0, g1, g0⟩ := hX.out
          refine ⟨⟨q + 1, by omega, by omega, by go_num, ?_, ⟨z, hY0⟩, putY_below hB2 (by omega) x, ?_, ?_, ?_⟩, by simp [intOf]; omega⟩
          · rw [Nat.add_sub_cancel, hstep.out, if_pos hcx]
            exact hY
          · simp; omega
          · exact fun o => (putY_frozen w' (w.heap.size + 1) x _).trans (g1 o)
          · exact fun o => (putY_frozen w' (w.heap.size + 1) x _).trans (g0 o)
        · have hX := Lib.hid (And.intro hat' (And.intro hz1 (And.intro g1 g0)))
          clear hat hc hat' hz1 g1 g0 hf1 hf0 hz0
          go_wp2_with fail
          obtain ⟨hY, hY0, g1, g0⟩ := hX.out
          refine ⟨⟨q + 1, by omega, by omega, by go_num, ?_, ⟨z, hY0⟩, hB2, by omega, g1, g0⟩, by simp [intOf]; omega⟩
          rw [Nat.add_sub_cancel, hstep.out, if_neg hcx]
          exact hY
    · obtain rfl : q = n := by omega
      have hY := putY_at (x := maxF cf l (q - 1)) hz0
      have hm : ∃ m, maxF cf l (q - 1) = m := ⟨_, rfl⟩
      obtain ⟨m, hm0⟩ := hm
      rw [hm0] at hat hY
      have hm := Lib.hid hm0
      have hY := Lib.hid hY
      clear hm0
      obtain ⟨m0, m1, m2, m3, m4, m5, m6⟩ := hat
      obtain ⟨z0, z1, z2, z3, z4, z5, z6⟩ := hz0
      simp only [Nat.zero_add] at m0 m1 m2 m3 m4 m5 m6 z0 z1 z2 z3 z4 z5 z6
      have f0 := hf0 0
      have f1 := hf0 1
      have f2 := hf0 2
      have f3 := hf0 3
      have f4 := hf0 4
      have f5 := hf0 5
      have f6 := hf0 6
      clear hf0 hf1 hg hrd h
      go_wp2_with fail
      rw [hm.out]
      have hW := putY_below hB (Nat.le_refl _) m
      obtain ⟨q0, q1, q2, q3, q4, q5, q6⟩ := hY.out
      simp only [Nat.zero_add] at q0 q1 q2 q3 q4 q5 q6
      refine bodyPost_ret (v := yV m) ?_ rfl ⟨rfl, hW⟩
      show (results Tryz.f27 _).run _ (putY wr w.heap.size m) = .ok _ (putY wr w.heap.size m)
      simp [results, Tryz.results27, go_sem, q0, q1, q2, q3, q4, q5, q6]

def minF (cf : Ply → Ply → Int) (l : List Ply) : Nat → Ply
  | 0 => nth l 0
  | k + 1 => if cf (nth l (k + 1)) (minF cf l k) < 0 then nth l (k + 1) else minF cf l k
set_option maxHeartbeats 4000000 in
theorem minC (g : Nat) (cf : Ply → Ply → Int) (A : Option Addr) (c : Nat) (l : List Ply) (w : World) (eg : ∀ args w, (callFunc g args).run Tryz.prog w = .ok (.enter g args) w)
    (hg : ∀ x y w, Calls Tryz.prog g #[yV x, yV y] w fun r w' => r = .returned (.int .i64 (cf x y)) ∧ Below w.heap.size w w') (hl : l.length ≤ 1000) (h0 : 0 < l.length) (h : SlY w A l) :
    Calls Tryz.prog 26 #[.slice A l.length c, .func (.func g) #[] #[]] w fun r w' => r = .returned (yV (minF cf l (l.length - 1))) ∧ Below w.heap.size w w' := by
  generalize hn : l.length = n at *
  obtain ⟨b, off, rfl, hlb, hrd⟩ := h.some (k := 0) (by omega)
  obtain ⟨r0, r1, r2, r3, r4, r5, r6⟩ := hrd 0 (by omega)
  simp only [Nat.zero_mul, Nat.add_zero] at r0 r1 r2 r3 r4 r5 r6
  have hn1 : ¬ (n : Int) < 1 := by omega
  go_enter Tryz.func26, Tryz.ntmps26
  go_wp2_with fail
  go_loopw [6] (fun i wr => ∃ q : Nat, 1 ≤ q ∧ q ≤ n ∧ i = .int .i64 q ∧ AtY wr (w.heap.size + 1) 0 (minF cf l (q - 1)) ∧ (∃ z, AtY wr w.heap.size 0 z) ∧ Below w.heap.size w wr ∧ w.heap.size + 2 ≤ wr.heap.size ∧ (∀ o, wr.frozen? ⟨w.heap.size + 1, o, none⟩ = false) ∧ (∀ o, wr.frozen? ⟨w.heap.size, o, none⟩ = false)) (fun i _ => n - (intOf i).toNat)
  case atStart =>
    refine ⟨1, by omega, by omega, rfl, (show AtY _ _ _ (nth l 0) from ?_), ⟨⟨0, 0, 0, 0, 0, 0, 0⟩, ?_⟩, by go_grown, by simp, ?_, ?_⟩
    · refine ⟨?_, ?_, ?_, ?_, ?_, ?_, ?_⟩ <;> go_cell
    · refine ⟨?_, ?_, ?_, ?_, ?_, ?_, ?_⟩ <;> go_cell
    · intro o; simp [go_sem]
    · intro o; simp [go_sem]
  case round =>
    obtain ⟨q, hq1, hq, rfl, hat, ⟨z, hz0⟩, hB, hsz, hf1, hf0⟩ := hrel
    by_cases hlt : q < n
    · obtain ⟨s0, s1, s2, s3, s4, s5, s6⟩ := hrd.below hB hlb q (by omega)
      have hat0 := hat
      obtain ⟨m0, m1, m2, m3, m4, m5, m6⟩ := hat0
      have hstep : minF cf l q = if cf (nth l q) (minF cf l (q - 1)) < 0 then nth l q else minF cf l (q - 1) := by
        obtain ⟨p, rfl⟩ : ∃ p, q = p + 1 := ⟨q - 1, by omega⟩
        rfl
      have hstep := Lib.hid hstep
      generalize minF cf l (q - 1) = m at *
      generalize nth l q = x at *
      have hc := hg x m
      clear hg hrd h
      go_wp2_with fail
      go_region_with (go_at_fn g; refine (hc _).mono ?_; rintro e w' ⟨rfl, hb⟩)
      all_goals
        have hz := hb.size
        rw [World.size_drew] at hz hb
        have hat' := (show AtY wr.drew _ _ _ from hat).below hb (by omega)
        have hz1 := (show AtY wr.drew _ _ _ from hz0).below hb (by omega)
        have hB2 := hB.drew.trans (hb.mono (by omega))
        have g1 : ∀ o, w'.frozen? ⟨w.heap.size + 1, o, none⟩ = false := fun o => (hb.frozen (p := ⟨w.heap.size + 1, o, none⟩) (by simp; omega)).trans (hf1 o)
        have g0 : ∀ o, w'.frozen? ⟨w.heap.size, o, none⟩ = false := fun o => (hb.frozen (p := ⟨w.heap.size, o, none⟩) (by simp; omega)).trans (hf0 o)
        by_cases hcx : cf x m < 0
        · have f0 := g1 0
          have f1 := g1 1
          have f2 := g1 2
          have f3 := g1 3
          have f4 := g1 4
          have f5 := g1 5
          have f6 := g1 6
          have hY := putY_at (x := x) hat'
          have hY0 := putY_other (b := w.heap.size + 1) (x := x) hz1 (by omega)
          have hP : AtY w' b (off + q * 7) x := (show AtY wr.drew b (off + q * 7) x from ⟨s0, s1, s2, s3, s4, s5, s6⟩).below hb (by omega)
          obtain ⟨s0, s1, s2, s3, s4, s5, s6⟩ := hP
          obtain ⟨m0, m1, m2, m3, m4, m5, m6⟩ := hat'
          simp only [Nat.zero_add] at m0 m1 m2 m3 m4 m5 m6
          have hX := Lib.hid (And.intro hY (And.intro hY0 (And.intro g1 g0)))
          clear hat hc hY hY0 g1 g0 hf1 hf0 hz0 hz1
          go_wp2_with fail
          obtain ⟨hY, hY0, g1, g0⟩ := hX.out
          refine ⟨⟨q + 1, by omega, by omega, by go_num, ?_, ⟨z, hY0⟩, putY_below hB2 (by omega) x, ?_, ?_, ?_⟩, by simp [intOf]; omega⟩
          · rw [Nat.add_sub_cancel, hstep.out, if_pos hcx]
            exact hY
          · simp; omega
          · exact fun o => (putY_frozen w' (w.heap.size + 1) x _).trans (g1 o)
          · exact fun o => (putY_frozen w' (w.heap.size + 1) x _).trans (g0 o)
        · have hX := Lib.hid (And.intro hat' (And.intro hz1 (And.intro g1 g0)))
          clear hat hc hat' hz1 g1 g0 hf1 hf0 hz0
          go_wp2_with fail
          obtain ⟨hY, hY0, g1, g0⟩ := hX.out
          refine ⟨⟨q + 1, by omega, by omega, by go_num, ?_, ⟨z, hY0⟩, hB2, by omega, g1, g0⟩, by simp [intOf]; omega⟩
          rw [Nat.add_sub_cancel, hstep.out, if_neg hcx]
          exact hY
    · obtain rfl : q = n := by omega
      have hY := putY_at (x := minF cf l (q - 1)) hz0
      have hm : ∃ m, minF cf l (q - 1) = m := ⟨_, rfl⟩
      obtain ⟨m, hm0⟩ := hm
      rw [hm0] at hat hY
      have hm := Lib.hid hm0
      have hY := Lib.hid hY
      clear hm0
      obtain ⟨m0, m1, m2, m3, m4, m5, m6⟩ := hat
      obtain ⟨z0, z1, z2, z3, z4, z5, z6⟩ := hz0
      simp only [Nat.zero_add] at m0 m1 m2 m3 m4 m5 m6 z0 z1 z2 z3 z4 z5 z6
      have f0 := hf0 0
      have f1 := hf0 1
      have f2 := hf0 2
      have f3 := hf0 3
      have f4 := hf0 4
      have f5 := hf0 5
      have f6 := hf0 6
      clear hf0 hf1 hg hrd h
      go_wp2_with fail
      rw [hm.out]
      have hW := putY_below hB (Nat.le_refl _) m
      obtain ⟨q0, q1, q2, q3, q4, q5, q6⟩ := hY.out
      simp only [Nat.zero_add] at q0 q1 q2 q3 q4 q5 q6
      refine bodyPost_ret (v := yV m) ?_ rfl ⟨rfl, hW⟩
      show (results Tryz.f26 _).run _ (putY wr w.heap.size m) = .ok _ (putY wr w.heap.size m)
      simp [results, Tryz.results26, go_sem, q0, q1, q2, q3, q4, q5, q6]
end Go.Proofs.YtmbchdfgckmpoaaGreat
