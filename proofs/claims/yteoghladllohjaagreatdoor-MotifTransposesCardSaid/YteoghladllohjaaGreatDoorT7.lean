/- slices.MinFunc at pitches. -/
import Derived.Test.YteoghladllohjaaGreatDoorT6
namespace Go.Proofs.YteoghladllohjaaGreatDoor
open Go.RowKit Go.Shelf Go.Sort

def putP (w : World) (b : Nat) (x : Pit) : World := w.setCells b 0 (encP3 x)
theorem putP_at {w : World} {b : Nat} {m x : Pit} (h : AtP w b 0 m) : AtP (putP w b x) b 0 x := by
  obtain ⟨m0, m1, m2⟩ := h
  have hs : ∀ j, j < (encP3 x).length → (w.cell? ⟨b, 0 + j, none⟩).isSome = true := by
    intro j hj
    have hj : j < 3 := by simpa [encP3] using hj
    match j, hj with
    | 0, _ => rw [m0]; rfl
    | 1, _ => rw [m1]; rfl
    | 2, _ => rw [m2]; rfl
  have hi := World.cell?_setCells_in b (encP3 x) 0 w hs
  exact ⟨(hi 0 (by simp [encP3])).trans rfl, (hi 1 (by simp [encP3])).trans rfl, (hi 2 (by simp [encP3])).trans rfl⟩
theorem putP_below {B : Nat} {a w : World} (h : Below B a w) {b : Nat} (hb : B ≤ b) (x : Pit) : Below B a (putP w b x) :=
  ((h.setCell (p := ⟨b, 0, none⟩) hb _).setCell (p := ⟨b, 1, none⟩) hb _).setCell (p := ⟨b, 2, none⟩) hb _
theorem putP_frozen (w : World) (b : Nat) (x : Pit) (p : Addr) : (putP w b x).frozen? p = w.frozen? p := World.frozen?_setCells b _ _ w p
theorem putP_size (w : World) (b : Nat) (x : Pit) : (putP w b x).heap.size = w.heap.size := by simp [putP, encP3, World.setCells]
theorem putP_other {w : World} {b c : Nat} {m x : Pit} (h : AtP w c 0 m) (hne : c ≠ b) : AtP (putP w b x) c 0 m := by
  obtain ⟨m0, m1, m2⟩ := h
  have e := fun o => World.cell?_setCells_out b (encP3 x) 0 w ⟨c, o, none⟩ (fun hc => absurd hc hne)
  exact ⟨(e _).trans m0, (e _).trans m1, (e _).trans m2⟩

def minF (cf : Pit → Pit → Int) (l : List Pit) : Nat → Pit
  | 0 => nthP l 0
  | k + 1 => if cf (nthP l (k + 1)) (minF cf l k) < 0 then nthP l (k + 1) else minF cf l k
theorem minF_at (cf : Pit → Pit → Int) (l : List Pit) : ∀ k, k < l.length → ∃ i, i ≤ k ∧ minF cf l k = nthP l i
  | 0, _ => ⟨0, Nat.le_refl _, rfl⟩
  | k + 1, h => by
    obtain ⟨i, hi, e⟩ := minF_at cf l k (by omega)
    unfold minF
    split
    · exact ⟨k + 1, Nat.le_refl _, rfl⟩
    · exact ⟨i, by omega, e⟩
set_option maxHeartbeats 4000000 in
theorem minC (cf : Pit → Pit → Int) (cap : Value) (b off c : Nat) (l : List Pit) (w : World)
    (hg : ∀ i m W, i < l.length → m < l.length → Below w.heap.size w W → Calls Tryz.prog 31 #[pitV (nthP l i), pitV (nthP l m), cap] W fun r w' => r = .returned (.int .i64 (cf (nthP l i) (nthP l m))) ∧ Below W.heap.size W w') (hl : l.length ≤ 1000) (h0 : 0 < l.length) (hlb : b < w.heap.size) (hrd : RdP w b off l) :
    Calls Tryz.prog 30 #[.slice (some ⟨b, off, none⟩) l.length c, .func (.func 31) #[] #[cap]] w fun r w' => r = .returned (pitV (minF cf l (l.length - 1))) ∧ Below w.heap.size w w' := by
  generalize hn : l.length = n at *
  have hix := fun k (hk : k < n) => minF_at cf l k (by omega)
  obtain ⟨r0, r1, r2⟩ := hrd 0 (by omega)
  simp only [Nat.zero_mul, Nat.add_zero] at r0 r1 r2
  have hn1 : ¬ (n : Int) < 1 := by omega
  have eg : ∀ args w, (callFunc 31 args).run Tryz.prog w = .ok (.enter 31 args) w := fun args w => by first | simp [go_sem] | rfl
  go_enter Tryz.func30, Tryz.ntmps30
  go_wp2_with fail
  go_loopw [6] (fun i wr => ∃ q : Nat, 1 ≤ q ∧ q ≤ n ∧ i = .int .i64 q ∧ AtP wr (w.heap.size + 1) 0 (minF cf l (q - 1)) ∧ (∃ z, AtP wr w.heap.size 0 z) ∧ Below w.heap.size w wr ∧ w.heap.size + 2 ≤ wr.heap.size ∧ (∀ o, wr.frozen? ⟨w.heap.size + 1, o, none⟩ = false) ∧ (∀ o, wr.frozen? ⟨w.heap.size, o, none⟩ = false)) (fun i _ => n - (intOf i).toNat)
  case atStart =>
    refine ⟨1, by omega, by omega, rfl, (show AtP _ _ _ (nthP l 0) from ?_), ⟨⟨0, 0, 0⟩, ?_⟩, by go_grown, by simp, ?_, ?_⟩
    · refine ⟨?_, ?_, ?_⟩ <;> go_cell
    · refine ⟨?_, ?_, ?_⟩ <;> go_cell
    · intro o; simp [go_sem]
    · intro o; simp [go_sem]
  case round =>
    obtain ⟨q, hq1, hq, rfl, hat, ⟨z, hz0⟩, hB, hsz, hf1, hf0⟩ := hrel
    by_cases hlt : q < n
    · obtain ⟨s0, s1, s2⟩ := hrd.below hB hlb q (by omega)
      have hat0 := hat
      obtain ⟨m0, m1, m2⟩ := hat0
      have hstep : minF cf l q = if cf (nthP l q) (minF cf l (q - 1)) < 0 then nthP l q else minF cf l (q - 1) := by
        obtain ⟨p, rfl⟩ : ∃ p, q = p + 1 := ⟨q - 1, by omega⟩
        rfl
      have hstep := Lib.hid hstep
      obtain ⟨mi, hmi, hme⟩ := hix (q - 1) (by omega)
      have hc := fun W h => hg q mi W (by omega) (by omega) h
      rw [← hme] at hc
      clear hme hix
      generalize minF cf l (q - 1) = m at *
      generalize nthP l q = x at *
      clear hg hrd
      go_wp2_with fail
      have hcc := hc wr.drew hB.drew
      go_region_with (go_at_fn 31; refine hcc.mono ?_; rintro e w' ⟨rfl, hb⟩)
      all_goals
        have hz := hb.size
        rw [World.size_drew] at hz hb
        have hat' := (show AtP wr.drew _ _ _ from hat).below hb (by omega)
        have hz1 := (show AtP wr.drew _ _ _ from hz0).below hb (by omega)
        have hB2 := hB.drew.trans (hb.mono (by omega))
        have g1 : ∀ o, w'.frozen? ⟨w.heap.size + 1, o, none⟩ = false := fun o => (hb.frozen (p := ⟨w.heap.size + 1, o, none⟩) (by simp; omega)).trans (hf1 o)
        have g0 : ∀ o, w'.frozen? ⟨w.heap.size, o, none⟩ = false := fun o => (hb.frozen (p := ⟨w.heap.size, o, none⟩) (by simp; omega)).trans (hf0 o)
        by_cases hcx : cf x m < 0
        · have f0 := g1 0
          have f1 := g1 1
          have f2 := g1 2
          have hY := putP_at (x := x) hat'
          have hY0 := putP_other (b := w.heap.size + 1) (x := x) hz1 (by omega)
          have hP : AtP w' b (off + q * 3) x := (show AtP wr.drew b (off + q * 3) x from ⟨s0, s1, s2⟩).below hb (by omega)
          obtain ⟨s0, s1, s2⟩ := hP
          obtain ⟨m0, m1, m2⟩ := hat'
          simp only [Nat.zero_add] at m0 m1 m2
          have hX := Lib.hid (And.intro hY (And.intro hY0 (And.intro g1 g0)))
          clear hat hc hY hY0 g1 g0 hf1 hf0 hz0 hz1
          go_wp2_with fail
          obtain ⟨hY, hY0, g1, g0⟩ := hX.out
          refine ⟨⟨q + 1, by omega, by omega, by go_num, ?_, ⟨z, hY0⟩, putP_below hB2 (by omega) x, ?_, ?_, ?_⟩, by simp [intOf]; omega⟩
          · rw [Nat.add_sub_cancel, hstep.out, if_pos hcx]
            exact hY
          · simp; omega
          · exact fun o => (putP_frozen w' (w.heap.size + 1) x _).trans (g1 o)
          · exact fun o => (putP_frozen w' (w.heap.size + 1) x _).trans (g0 o)
        · have hX := Lib.hid (And.intro hat' (And.intro hz1 (And.intro g1 g0)))
          clear hat hc hat' hz1 g1 g0 hf1 hf0 hz0
          go_wp2_with fail
          obtain ⟨hY, hY0, g1, g0⟩ := hX.out
          refine ⟨⟨q + 1, by omega, by omega, by go_num, ?_, ⟨z, hY0⟩, hB2, by omega, g1, g0⟩, by simp [intOf]; omega⟩
          rw [Nat.add_sub_cancel, hstep.out, if_neg hcx]
          exact hY
    · obtain rfl : q = n := by omega
      have hY := putP_at (x := minF cf l (q - 1)) hz0
      have hm : ∃ m, minF cf l (q - 1) = m := ⟨_, rfl⟩
      obtain ⟨m, hm0⟩ := hm
      rw [hm0] at hat hY
      have hm := Lib.hid hm0
      have hY := Lib.hid hY
      clear hm0
      obtain ⟨m0, m1, m2⟩ := hat
      obtain ⟨z0, z1, z2⟩ := hz0
      simp only [Nat.zero_add] at m0 m1 m2 z0 z1 z2
      have f0 := hf0 0
      have f1 := hf0 1
      have f2 := hf0 2
      clear hf0 hf1 hg hrd hix
      go_wp2_with fail
      rw [hm.out]
      have hW := putP_below hB (Nat.le_refl _) m
      obtain ⟨q0, q1, q2⟩ := hY.out
      simp only [Nat.zero_add] at q0 q1 q2
      refine bodyPost_ret (v := pitV m) ?_ rfl ⟨rfl, hW⟩
      show (results Tryz.f30 _).run _ (putP wr w.heap.size m) = .ok _ (putP wr w.heap.size m)
      simp [results, Tryz.results30, go_sem, q0, q1, q2]
end Go.Proofs.YteoghladllohjaaGreatDoor
