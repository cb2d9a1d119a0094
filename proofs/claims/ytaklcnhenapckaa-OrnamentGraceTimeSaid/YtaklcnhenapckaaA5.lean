/- Contracts: metre.Check, Swing. -/
import Derived.Test.YtaklcnhenapckaaA4
namespace Go.Proofs.Ytaklcnhenapckaa
open Go.RowKit

/-- More than one bit. -/
def bitsF (u : Int) : Int := bits .and .i64 u (u - 1)
def metreF (c u g0 g1 g2 g3 g4 g5 : Int) : Int :=
  if c < 1 ∨ 64 < c then 2 else if u < 1 ∨ 64 < u ∨ bitsF u ≠ 0 then 17 else if groupedF c g0 g1 g2 g3 g4 g5 = true then 0 else 19

set_option maxHeartbeats 2000000 in
theorem metreCheck (c u g0 g1 g2 g3 g4 g5 : Int) (w : World) :
    Calls Try.prog 18 #[metreV c u g0 g1 g2 g3 g4 g5] w fun e w' => e = .returned (.int .i64 (metreF c u g0 g1 g2 g3 g4 g5)) ∧ Below w.heap.size w w' := by
  by_cases h1 : c < 1
  · have hr := Lib.hid (show metreF c u g0 g1 g2 g3 g4 g5 = 2 by unfold metreF; rw [if_pos (by omega)])
    go_enter Try.func18, Try.ntmps18
    go_wp2_with fail
    go_ret
    exact ⟨ret_int hr.out.symm, by go_grown⟩
  by_cases h2 : 64 < c
  · have hr := Lib.hid (show metreF c u g0 g1 g2 g3 g4 g5 = 2 by unfold metreF; rw [if_pos (by omega)])
    go_enter Try.func18, Try.ntmps18
    go_wp2_with fail
    go_ret
    exact ⟨ret_int hr.out.symm, by go_grown⟩
  by_cases h3 : u < 1
  · have hr := Lib.hid (show metreF c u g0 g1 g2 g3 g4 g5 = 17 by unfold metreF; rw [if_neg (by omega), if_pos (by omega)])
    go_enter Try.func18, Try.ntmps18
    go_wp2_with fail
    go_ret
    exact ⟨ret_int hr.out.symm, by go_grown⟩
  by_cases h4 : 64 < u
  · have hr := Lib.hid (show metreF c u g0 g1 g2 g3 g4 g5 = 17 by unfold metreF; rw [if_neg (by omega), if_pos (by omega)])
    go_enter Try.func18, Try.ntmps18
    go_wp2_with fail
    go_ret
    exact ⟨ret_int hr.out.symm, by go_grown⟩
  by_cases h5 : bits .and .i64 u (u - 1) = 0
  · have h6 : (bits .and .i64 u (u - 1) != 0) = false := by simpa using h5
    cases hg : groupedF c g0 g1 g2 g3 g4 g5
    · have hr := Lib.hid (show metreF c u g0 g1 g2 g3 g4 g5 = 19 by unfold metreF bitsF; rw [if_neg (by omega), if_neg (by omega), if_neg (by simp [hg])])
      clear h5
      go_enter Try.func18, Try.ntmps18
      go_wp2_with fail
      refine (grouped _ _ _ _ _ _ _ _ _).mono ?_; rintro e w1 ⟨rfl, hb⟩
      rw [hg]
      go_wp2_with fail
      go_ret
      exact ⟨ret_int hr.out.symm, ((Below.refl _ _).alloc (Nat.le_refl _) _).trans (hb.mono (by simp))⟩
    · have hr := Lib.hid (show metreF c u g0 g1 g2 g3 g4 g5 = 0 by unfold metreF bitsF; rw [if_neg (by omega), if_neg (by omega), if_pos (by simp [hg])])
      clear h5
      go_enter Try.func18, Try.ntmps18
      go_wp2_with fail
      refine (grouped _ _ _ _ _ _ _ _ _).mono ?_; rintro e w1 ⟨rfl, hb⟩
      rw [hg]
      go_wp2_with fail
      go_ret
      exact ⟨ret_int hr.out.symm, ((Below.refl _ _).alloc (Nat.le_refl _) _).trans (hb.mono (by simp))⟩
  · have h6 : (bits .and .i64 u (u - 1) != 0) = true := by simpa using h5
    have hr := Lib.hid (show metreF c u g0 g1 g2 g3 g4 g5 = 17 by unfold metreF bitsF; rw [if_neg (by omega), if_pos (by omega)])
    clear h5
    go_enter Try.func18, Try.ntmps18
    go_wp2_with fail
    go_ret
    exact ⟨ret_int hr.out.symm, by go_grown⟩

theorem metreF_unit {c u g0 g1 g2 g3 g4 g5 : Int} (h : metreF c u g0 g1 g2 g3 g4 g5 = 0) : 1 ≤ u ∧ u ≤ 64 := by
  unfold metreF at h; split at h
  · omega
  · split at h
    · omega
    · omega

/-- Where a tick is played. -/
def swingT (off tick p : Int) : Int :=
  if (off + tick) % 483840 < 241920 then tick - (off + tick) % 483840 + (off + tick) % 483840 * (483840 * p / 100) / 241920
  else tick - (off + tick) % 483840 + 483840 * p / 100 + ((off + tick) % 483840 - 241920) * (483840 - 483840 * p / 100) / 241920

def swingV (m u off tick p : Int) : Value :=
  if m = 0 then
    if off < 0 ∨ 4398046511104 < off ∨ tick < 0 ∨ 4398046511104 < tick ∨ p < 50 ∨ 75 < p then .tuple #[.int .i64 0, .int .i64 2]
    else if 4 < u then .tuple #[.int .i64 tick, .int .i64 0] else .tuple #[.int .i64 (swingT off tick p), .int .i64 0]
  else .tuple #[.int .i64 0, .int .i64 m]

theorem mul_bd {a b x y : Int} (h1 : 0 ≤ a) (h2 : a ≤ x) (h3 : 0 ≤ b) (h4 : b ≤ y) : 0 ≤ a * b ∧ a * b ≤ x * y :=
  ⟨Int.mul_nonneg h1 h3, Int.mul_le_mul h2 h4 h3 (by omega)⟩

set_option maxHeartbeats 4000000 in
theorem swingO (c u g0 g1 g2 g3 g4 g5 off tick p : Int) (w : World) :
    Calls Try.prog 16 #[metreV c u g0 g1 g2 g3 g4 g5, .int .i64 off, .int .i64 tick, .int .i64 p] w fun e w' => e = .returned (swingV (metreF c u g0 g1 g2 g3 g4 g5) u off tick p) ∧ Below w.heap.size w w' := by
  unfold swingV
  by_cases h : metreF c u g0 g1 g2 g3 g4 g5 = 0
  · rw [if_pos h]
    have hu := metreF_unit h
    by_cases hr : off < 0 ∨ 4398046511104 < off ∨ tick < 0 ∨ 4398046511104 < tick ∨ p < 50 ∨ 75 < p
    · rw [if_pos hr]
      have hc : off < 0 ∨ (0 ≤ off ∧ 4398046511104 < off) ∨ (0 ≤ off ∧ off ≤ 4398046511104 ∧ tick < 0) ∨ (0 ≤ off ∧ off ≤ 4398046511104 ∧ 0 ≤ tick ∧ 4398046511104 < tick) ∨ (0 ≤ off ∧ off ≤ 4398046511104 ∧ 0 ≤ tick ∧ tick ≤ 4398046511104 ∧ p < 50) ∨ (0 ≤ off ∧ off ≤ 4398046511104 ∧ 0 ≤ tick ∧ tick ≤ 4398046511104 ∧ 50 ≤ p ∧ 75 < p) := by omega
      clear hr
      rcases hc with h1 | ⟨h1, h2⟩ | ⟨h1, h2, h3⟩ | ⟨h1, h2, h3, h4⟩ | ⟨h1, h2, h3, h4, h5⟩ | ⟨h1, h2, h3, h4, h5, h6⟩
      all_goals
        go_enter Try.func16, Try.ntmps16
        go_wp2_with fail
        refine (metreCheck _ _ _ _ _ _ _ _ _).mono ?_; rintro e w1 ⟨rfl, hb1⟩
        rw [h]
        go_wp2_with fail
        go_ret2
        exact ⟨rfl, ((Below.refl _ _).alloc (Nat.le_refl _) _).trans (hb1.mono (by simp))⟩
    · rw [if_neg hr]
      have hr' : 0 ≤ off ∧ off ≤ 4398046511104 ∧ 0 ≤ tick ∧ tick ≤ 4398046511104 ∧ 50 ≤ p ∧ p ≤ 75 := by omega
      clear hr
      obtain ⟨h1, h2, h3, h4, h5, h6⟩ := hr'
      by_cases h7 : 4 < u
      · rw [if_pos h7]
        go_enter Try.func16, Try.ntmps16
        go_wp2_with fail
        refine (metreCheck _ _ _ _ _ _ _ _ _).mono ?_; rintro e w1 ⟨rfl, hb1⟩
        obtain ⟨hc1, hf1⟩ := bcell hb1
        have hz1 : w.heap.size < w1.heap.size := by have := hb1.size; simp at this; omega
        rw [h]
        go_wp2_with fail
        go_ret2
        exact ⟨rfl, ((Below.refl _ _).alloc (Nat.le_refl _) _).trans (hb1.mono (by simp))⟩
      · rw [if_neg h7]
        have m1 := mul_bd (a := (off + tick) % 483840) (b := 483840 * p / 100) (x := 483840) (y := 483840) (by omega) (by omega) (by omega) (by omega)
        have m2 : ¬ (off + tick) % 483840 < 241920 → 0 ≤ ((off + tick) % 483840 - 241920) * (483840 - 483840 * p / 100) ∧ ((off + tick) % 483840 - 241920) * (483840 - 483840 * p / 100) ≤ 483840 * 483840 := fun _ => mul_bd (by omega) (by omega) (by omega) (by omega)
        by_cases hT : (off + tick) % 483840 < 241920
        · clear m2
          have hs := Lib.hid (show swingT off tick p = _ from if_pos hT)
          go_enter Try.func16, Try.ntmps16
          go_wp2_with fail
          refine (metreCheck _ _ _ _ _ _ _ _ _).mono ?_; rintro e w1 ⟨rfl, hb1⟩
          obtain ⟨hc1, hf1⟩ := bcell hb1
          have hz1 : w.heap.size < w1.heap.size := by have := hb1.size; simp at this; omega
          rw [h]
          go_wp2_with fail
          go_ret2
          exact ⟨ret_2 (by rw [hs.out] <;> omega) rfl, ((Below.refl _ _).alloc (Nat.le_refl _) _).trans (hb1.mono (by simp))⟩
        have m2 := m2 hT
        have hs := Lib.hid (show swingT off tick p = _ from if_neg hT)
        go_enter Try.func16, Try.ntmps16
        go_wp2_with fail
        refine (metreCheck _ _ _ _ _ _ _ _ _).mono ?_; rintro e w1 ⟨rfl, hb1⟩
        obtain ⟨hc1, hf1⟩ := bcell hb1
        have hz1 : w.heap.size < w1.heap.size := by have := hb1.size; simp at this; omega
        rw [h]
        go_wp2_with fail
        go_ret2
        exact ⟨ret_2 (by rw [hs.out] <;> omega) rfl, ((Below.refl _ _).alloc (Nat.le_refl _) _).trans (hb1.mono (by simp))⟩
  · rw [if_neg h]
    have g1 : (metreF c u g0 g1 g2 g3 g4 g5 != 0) = true := by simpa using h
    clear h
    go_enter Try.func16, Try.ntmps16
    go_wp2_with fail
    refine (metreCheck _ _ _ _ _ _ _ _ _).mono ?_; rintro e w1 ⟨rfl, hb1⟩
    go_wp2_with fail
    go_ret2
    exact ⟨rfl, ((Below.refl _ _).alloc (Nat.le_refl _) _).trans (hb1.mono (by simp))⟩

set_option maxHeartbeats 4000000 in
theorem swingL (c u g0 g1 g2 g3 g4 g5 off tick p : Int) (w : World) :
    Calls Try.prog 17 #[metreV c u g0 g1 g2 g3 g4 g5, .int .i64 off, .int .i64 tick, .int .i64 p] w fun e w' => e = .returned (swingV (metreF c u g0 g1 g2 g3 g4 g5) u off tick p) ∧ Below w.heap.size w w' := by
  unfold swingV
  by_cases h : metreF c u g0 g1 g2 g3 g4 g5 = 0
  · rw [if_pos h]
    have hu := metreF_unit h
    by_cases hr : off < 0 ∨ 4398046511104 < off ∨ tick < 0 ∨ 4398046511104 < tick ∨ p < 50 ∨ 75 < p
    · rw [if_pos hr]
      have hc : off < 0 ∨ (0 ≤ off ∧ 4398046511104 < off) ∨ (0 ≤ off ∧ off ≤ 4398046511104 ∧ tick < 0) ∨ (0 ≤ off ∧ off ≤ 4398046511104 ∧ 0 ≤ tick ∧ 4398046511104 < tick) ∨ (0 ≤ off ∧ off ≤ 4398046511104 ∧ 0 ≤ tick ∧ tick ≤ 4398046511104 ∧ p < 50) ∨ (0 ≤ off ∧ off ≤ 4398046511104 ∧ 0 ≤ tick ∧ tick ≤ 4398046511104 ∧ 50 ≤ p ∧ 75 < p) := by omega
      clear hr
      rcases hc with h1 | ⟨h1, h2⟩ | ⟨h1, h2, h3⟩ | ⟨h1, h2, h3, h4⟩ | ⟨h1, h2, h3, h4, h5⟩ | ⟨h1, h2, h3, h4, h5, h6⟩
      all_goals
        go_enter Try.func17, Try.ntmps17
        go_wp2_with fail
        refine (metreCheck _ _ _ _ _ _ _ _ _).mono ?_; rintro e w1 ⟨rfl, hb1⟩
        rw [h]
        go_wp2_with fail
        go_ret2
        exact ⟨rfl, ((Below.refl _ _).alloc (Nat.le_refl _) _).trans (hb1.mono (by simp))⟩
    · rw [if_neg hr]
      have hr' : 0 ≤ off ∧ off ≤ 4398046511104 ∧ 0 ≤ tick ∧ tick ≤ 4398046511104 ∧ 50 ≤ p ∧ p ≤ 75 := by omega
      clear hr
      obtain ⟨h1, h2, h3, h4, h5, h6⟩ := hr'
      by_cases h7 : 4 < u
      · rw [if_pos h7]
        go_enter Try.func17, Try.ntmps17
        go_wp2_with fail
        refine (metreCheck _ _ _ _ _ _ _ _ _).mono ?_; rintro e w1 ⟨rfl, hb1⟩
        obtain ⟨hc1, hf1⟩ := bcell hb1
        have hz1 : w.heap.size < w1.heap.size := by have := hb1.size; simp at this; omega
        rw [h]
        go_wp2_with fail
        go_ret2
        exact ⟨rfl, ((Below.refl _ _).alloc (Nat.le_refl _) _).trans (hb1.mono (by simp))⟩
      · rw [if_neg h7]
        have m1 := mul_bd (a := (off + tick) % 483840) (b := 483840 * p / 100) (x := 483840) (y := 483840) (by omega) (by omega) (by omega) (by omega)
        have m2 : ¬ (off + tick) % 483840 < 241920 → 0 ≤ ((off + tick) % 483840 - 241920) * (483840 - 483840 * p / 100) ∧ ((off + tick) % 483840 - 241920) * (483840 - 483840 * p / 100) ≤ 483840 * 483840 := fun _ => mul_bd (by omega) (by omega) (by omega) (by omega)
        by_cases hT : (off + tick) % 483840 < 241920
        · clear m2
          have hs := Lib.hid (show swingT off tick p = _ from if_pos hT)
          go_enter Try.func17, Try.ntmps17
          go_wp2_with fail
          refine (metreCheck _ _ _ _ _ _ _ _ _).mono ?_; rintro e w1 ⟨rfl, hb1⟩
          obtain ⟨hc1, hf1⟩ := bcell hb1
          have hz1 : w.heap.size < w1.heap.size := by have := hb1.size; simp at this; omega
          rw [h]
          go_wp2_with fail
          go_ret2
          exact ⟨ret_2 (by rw [hs.out] <;> omega) rfl, ((Below.refl _ _).alloc (Nat.le_refl _) _).trans (hb1.mono (by simp))⟩
        have m2 := m2 hT
        have hs := Lib.hid (show swingT off tick p = _ from if_neg hT)
        go_enter Try.func17, Try.ntmps17
        go_wp2_with fail
        refine (metreCheck _ _ _ _ _ _ _ _ _).mono ?_; rintro e w1 ⟨rfl, hb1⟩
        obtain ⟨hc1, hf1⟩ := bcell hb1
        have hz1 : w.heap.size < w1.heap.size := by have := hb1.size; simp at this; omega
        rw [h]
        go_wp2_with fail
        go_ret2
        exact ⟨ret_2 (by rw [hs.out] <;> omega) rfl, ((Below.refl _ _).alloc (Nat.le_refl _) _).trans (hb1.mono (by simp))⟩
  · rw [if_neg h]
    have g1 : (metreF c u g0 g1 g2 g3 g4 g5 != 0) = true := by simpa using h
    clear h
    go_enter Try.func17, Try.ntmps17
    go_wp2_with fail
    refine (metreCheck _ _ _ _ _ _ _ _ _).mono ?_; rintro e w1 ⟨rfl, hb1⟩
    go_wp2_with fail
    go_ret2
    exact ⟨rfl, ((Below.refl _ _).alloc (Nat.le_refl _) _).trans (hb1.mono (by simp))⟩
end Go.Proofs.Ytaklcnhenapckaa
