/- Contracts: Neighbours. -/
import Derived.Test.YtaklcnhenapckaaA2
namespace Go.Proofs.Ytaklcnhenapckaa
open Go.RowKit

/-- What stays known across calls that only make memory: the chain of worlds. -/
theorem bstep {w W w1 : World} (h : Below w.heap.size w W) (hb : Below W.heap.size W w1) : Below w.heap.size w w1 := h.trans (hb.mono h.size)

def upF (s a o f : Int) : Int := max 1 (12 + semisF (7 * o + s + 1) (alterF f ((s + 1) % 7)) - numberF s a o)
def downF (s a o f : Int) : Int := min (-1) (12 + semisF (7 * o + s - 1) (alterF f ((s + 6) % 7)) - numberF s a o)

theorem semisF_bd (d alt : Int) (h1 : -10000 ≤ d) (h2 : d ≤ 10000) (h3 : -100 ≤ alt) (h4 : alt ≤ 100) : -20000 ≤ semisF d alt ∧ semisF d alt ≤ 20000 := by
  have := semiF_bd (d % 7); unfold semisF; omega

set_option maxHeartbeats 2000000 in
theorem neighOk (s a o f : Int) (w : World) (h : pitchCheckF s a o = 0) (g : keyCheckF f = 0) :
    Calls Try.prog 10 #[pitchV s a o, .int .i64 f] w fun e w' => e = .returned (.tuple #[.int .i64 (upF s a o f), .int .i64 (downF s a o f), .int .i64 0]) ∧ Below w.heap.size w w' := by
  obtain ⟨h1, h2, h3, h4, h5, h6, _, _⟩ := pitchCheckF_in h
  have f1 : -7 ≤ f ∧ f ≤ 7 := by unfold keyCheckF at g; split at g <;> omega
  have e1 := Lib.hid (show numOr s a o = numberF s a o from (numOr_in h).symm)
  have e2 := Lib.hid (show diaOr s a o = 7 * o + s from (diaOr_in h).symm)
  have a1 := alterF_bd f ((s + 1) % 7)
  have a2 := alterF_bd f ((s + 6) % 7)
  have n1 := numberF_bd s a o h3 h4 h5 h6
  have s1 := semisF_bd (7 * o + s + 1) (alterF f ((s + 1) % 7)) (by omega) (by omega) (by omega) (by omega)
  have s2 := semisF_bd (7 * o + s - 1) (alterF f ((s + 6) % 7)) (by omega) (by omega) (by omega) (by omega)
  go_enter Try.func10, Try.ntmps10
  go_wp2_with fail
  refine (numberC _ _ _ _).mono ?_; rintro e w1 ⟨rfl, hb1⟩
  rw [h, e1.out]
  obtain ⟨hc1, hf1⟩ := bcell hb1
  have hz1 : w.heap.size < w1.heap.size := by have := hb1.size; simp at this; omega
  have B1 := bstep ((Below.refl _ _).alloc (Nat.le_refl _) _) hb1
  go_wp2_with fail
  refine (keyCheck _ _).mono ?_; rintro e w' ⟨rfl, rfl⟩
  rw [g]
  go_wp2_with fail
  refine (diatonicC _ _ _ _).mono ?_; rintro e w2 ⟨rfl, hb2⟩
  rw [h, e2.out]
  obtain ⟨hc2, hf2⟩ := bcell hb2
  have hz2 : w.heap.size < w2.heap.size := by have := hb2.size; omega
  have B2 := bstep B1 hb2
  go_wp2_with fail
  refine (alterC _ _ _ f1.1 f1.2 (by omega) (by omega)).mono ?_; rintro e w3 ⟨rfl, hb3⟩
  obtain ⟨hc3, hf3⟩ := bcell hb3
  have hz3 : w.heap.size < w3.heap.size := by have := hb3.size; omega
  have B3 := bstep B2 hb3
  go_wp2_with fail
  refine (alterC _ _ _ f1.1 f1.2 (by omega) (by omega)).mono ?_; rintro e w4 ⟨rfl, hb4⟩
  have B4 := bstep B3 hb4
  go_wp2_with fail
  refine (semisO _ _ _ (by omega) (by omega) (by omega) (by omega)).mono ?_; rintro e w' ⟨rfl, rfl⟩
  go_wp2_with (go_at_call 25; refine (semisO _ _ _ (by omega) (by omega) (by omega) (by omega)).mono ?_; rintro e w' ⟨rfl, rfl⟩)
  all_goals
    go_ret3
    exact ⟨ret_3 (by unfold upF; omega) (by unfold downF; omega) rfl, B4⟩

/-- The results of the two Neighbours. -/
def neighV (s a o f : Int) : Value :=
  if pitchCheckF s a o = 0 then if keyCheckF f = 0 then .tuple #[.int .i64 (upF s a o f), .int .i64 (downF s a o f), .int .i64 0] else .tuple #[.int .i64 0, .int .i64 0, .int .i64 (keyCheckF f)]
  else .tuple #[.int .i64 0, .int .i64 0, .int .i64 (pitchCheckF s a o)]

set_option maxHeartbeats 2000000 in
theorem neighO (s a o f : Int) (w : World) :
    Calls Try.prog 10 #[pitchV s a o, .int .i64 f] w fun e w' => e = .returned (neighV s a o f) ∧ Below w.heap.size w w' := by
  unfold neighV
  by_cases h : pitchCheckF s a o = 0
  · rw [if_pos h]
    by_cases g : keyCheckF f = 0
    · rw [if_pos g]; exact neighOk s a o f w h g
    · rw [if_neg g]
      have g1 : (keyCheckF f != 0) = true := by simpa using g
      clear g
      go_enter Try.func10, Try.ntmps10
      go_wp2_with fail
      refine (numberC _ _ _ _).mono ?_; rintro e w1 ⟨rfl, hb1⟩
      rw [h]
      go_wp2_with fail
      refine (keyCheck _ _).mono ?_; rintro e w' ⟨rfl, rfl⟩
      go_wp2_with fail
      go_ret3
      exact ⟨ret_3 rfl rfl rfl, bstep ((Below.refl _ _).alloc (Nat.le_refl _) _) hb1⟩
  · rw [if_neg h]
    have g1 : (pitchCheckF s a o != 0) = true := by simpa using h
    clear h
    go_enter Try.func10, Try.ntmps10
    go_wp2_with fail
    refine (numberC _ _ _ _).mono ?_; rintro e w1 ⟨rfl, hb1⟩
    go_wp2_with fail
    go_ret3
    exact ⟨ret_3 rfl rfl rfl, bstep ((Below.refl _ _).alloc (Nat.le_refl _) _) hb1⟩

set_option maxHeartbeats 2000000 in
theorem neighL (s a o f : Int) (w : World) :
    Calls Try.prog 11 #[pitchV s a o, .int .i64 f] w fun e w' => e = .returned (neighV s a o f) ∧ Below w.heap.size w w' := by
  unfold neighV
  by_cases h : pitchCheckF s a o = 0
  · rw [if_pos h]
    by_cases g : keyCheckF f = 0
    · rw [if_pos g]
      obtain ⟨h1, h2, h3, h4, h5, h6, _, _⟩ := pitchCheckF_in h
      have f1 : -7 ≤ f ∧ f ≤ 7 := by unfold keyCheckF at g; split at g <;> omega
      have e1 := Lib.hid (show numberF s a o = 12 + semisF (7 * o + s) a by
        unfold numberF semisF; rw [show (7 * o + s) % 7 = s by omega, show (7 * o + s) / 7 = o by omega]; omega)
      have a1 := alterF_bd f ((s + 1) % 7)
      have a2 := alterF_bd f ((s + 6) % 7)
      have s0 := semisF_bd (7 * o + s) a (by omega) (by omega) (by omega) (by omega)
      have s1 := semisF_bd (7 * o + s + 1) (alterF f ((s + 1) % 7)) (by omega) (by omega) (by omega) (by omega)
      have s2 := semisF_bd (7 * o + s - 1) (alterF f ((s + 6) % 7)) (by omega) (by omega) (by omega) (by omega)
      go_enter Try.func11, Try.ntmps11
      go_wp2_with fail
      refine (pitchCheck _ _ _ _).mono ?_; rintro e w1 ⟨rfl, hb1⟩
      rw [h]
      obtain ⟨hc1, hf1⟩ := bcell hb1
      have hz1 : w.heap.size < w1.heap.size := by have := hb1.size; simp at this; omega
      have B1 := bstep ((Below.refl _ _).alloc (Nat.le_refl _) _) hb1
      go_wp2_with fail
      refine (keyCheck _ _).mono ?_; rintro e w' ⟨rfl, rfl⟩
      rw [g]
      go_wp2_with fail
      refine (semisL _ _ _ (by omega) (by omega) (by omega) (by omega)).mono ?_; rintro e w2 ⟨rfl, hb2⟩
      obtain ⟨hc2, hf2⟩ := bcell hb2
      have hz2 : w.heap.size < w2.heap.size := by have := hb2.size; omega
      have B2 := bstep B1 hb2
      go_wp2_with fail
      refine (alterC _ _ _ f1.1 f1.2 (by omega) (by omega)).mono ?_; rintro e w3 ⟨rfl, hb3⟩
      obtain ⟨hc3, hf3⟩ := bcell hb3
      have hz3 : w.heap.size < w3.heap.size := by have := hb3.size; omega
      have B3 := bstep B2 hb3
      go_wp2_with fail
      refine (alterC _ _ _ f1.1 f1.2 (by omega) (by omega)).mono ?_; rintro e w4 ⟨rfl, hb4⟩
      have B4 := bstep B3 hb4
      go_wp2_with fail
      refine (semisL _ _ _ (by omega) (by omega) (by omega) (by omega)).mono ?_; rintro e w5 ⟨rfl, hb5⟩
      have B5 := bstep B4 hb5
      go_wp2_with (go_at_call 27; refine (semisL _ _ _ (by omega) (by omega) (by omega) (by omega)).mono ?_; rintro e w6 ⟨rfl, hb6⟩)
      all_goals
        go_ret3
        exact ⟨ret_3 (by unfold upF; rw [e1.out]; omega) (by unfold downF; rw [e1.out]; omega) rfl, bstep B5 hb6⟩
    · rw [if_neg g]
      have g1 : (keyCheckF f != 0) = true := by simpa using g
      clear g
      go_enter Try.func11, Try.ntmps11
      go_wp2_with fail
      refine (pitchCheck _ _ _ _).mono ?_; rintro e w1 ⟨rfl, hb1⟩
      rw [h]
      go_wp2_with fail
      refine (keyCheck _ _).mono ?_; rintro e w' ⟨rfl, rfl⟩
      go_wp2_with fail
      go_ret3
      exact ⟨ret_3 rfl rfl rfl, bstep ((Below.refl _ _).alloc (Nat.le_refl _) _) hb1⟩
  · rw [if_neg h]
    have g1 : (pitchCheckF s a o != 0) = true := by simpa using h
    clear h
    go_enter Try.func11, Try.ntmps11
    go_wp2_with fail
    refine (pitchCheck _ _ _ _).mono ?_; rintro e w1 ⟨rfl, hb1⟩
    go_wp2_with fail
    go_ret3
    exact ⟨ret_3 rfl rfl rfl, bstep ((Below.refl _ _).alloc (Nat.le_refl _) _) hb1⟩
end Go.Proofs.Ytaklcnhenapckaa
