/- The law OrnamentBeats. -/
import Derived.Test.YtaklcnhenapckaaA6
import Derived.Test.YtaklcnhenapckaaB9
import Derived.Deep.QuietTactic
import Derived.BigQuiet
namespace Go.Proofs.Ytaklcnhenapckaa
open Go.RowKit

theorem clamp_bd (x b : Int) (hb : 0 ≤ b) : ∃ z y, (if x < 0 then 0 else x) = z ∧ (if b < z then b else z) = y ∧ 0 ≤ y ∧ y ≤ b := by
  refine ⟨_, _, rfl, rfl, ?_, ?_⟩ <;> (repeat' split) <;> omega

theorem swingV_err {m u off tick p : Int} (h : m ≠ 0) : swingV m u off tick p = .tuple #[.int .i64 0, .int .i64 m] := by unfold swingV; rw [if_neg h]
theorem swingV_hi {m u off tick p : Int} (h : m = 0) (o0 : 0 ≤ off) (o1 : off ≤ 4398046511104) (t0 : 0 ≤ tick) (t1 : tick ≤ 4398046511104) (p0 : 50 ≤ p) (p1 : p ≤ 75) (hu : 4 < u) : swingV m u off tick p = .tuple #[.int .i64 tick, .int .i64 0] := by
  unfold swingV; rw [if_pos h, if_neg (by omega), if_pos hu]
theorem swingV_lo {m u off tick p : Int} (h : m = 0) (o0 : 0 ≤ off) (o1 : off ≤ 4398046511104) (t0 : 0 ≤ tick) (t1 : tick ≤ 4398046511104) (p0 : 50 ≤ p) (p1 : p ≤ 75) (hu : u ≤ 4) : swingV m u off tick p = .tuple #[.int .i64 (swingT off tick p), .int .i64 0] := by
  unfold swingV; rw [if_pos h, if_neg (by omega), if_neg (by omega)]

set_option maxHeartbeats 4000000 in
theorem lawBeats (c u g0 g1 g2 g3 g4 g5 o' t' q0 q1 : Int) (w : World) :
    Calls Try.prog 7 #[metreV c u g0 g1 g2 g3 g4 g5, .agg #[.int .i64 o', .int .i64 t'], .agg #[.int .i64 q0, .int .i64 q1]] w fun e w' => e = .returned (.bool true) ∧ Below w.heap.size w w' := by
  obtain ⟨off', off, eo', eo, o0, o1⟩ := clamp_bd o' 2199023255552 (by omega)
  obtain ⟨tick', tick, et', et, t0, t1⟩ := clamp_bd t' 2199023255552 (by omega)
  obtain ⟨more', more, em', em, m0, m1⟩ := clamp_bd q0 483840 (by omega)
  obtain ⟨sh', sh, es', es, s0, s1⟩ := clamp_bd q1 25 (by omega)
  go_enter Try.func7, Try.ntmps7
  go_wp2_with fail
  go_quiet (fail)
  go_wp2_with fail
  go_quiet (fail)
  clear eo et em es eo' et' em' es'
  go_wp2_with fail
  refine (swingO _ _ _ _ _ _ _ _ _ _ _ _).mono ?_; rintro e w1 ⟨rfl, hb1⟩
  obtain ⟨hc1, hf1⟩ := bcell hb1
  have hz1 : w.heap.size + 2 < w1.heap.size := by have := hb1.size; simp at this; omega
  have hz1' : w.heap.size < w1.heap.size := by omega
  have B1 := bstep (below_drewN ((((Below.refl _ _).alloc (Nat.le_refl _) _).alloc (by simp) _).alloc (by simp; omega) _) _) hb1
  generalize hm : metreF c u g0 g1 g2 g3 g4 g5 = M
  have hm := Lib.hid hm
  by_cases hM : M = 0
  · obtain ⟨l1, l2, l3, l4, l5⟩ := swing_laws off tick more (50 + sh) m0 (by omega) (by omega)
    by_cases hu : 4 < u
    · rw [swingV_hi hM o0 (by omega) t0 (by omega) (by omega) (by omega) hu]
      subst hM
      go_wp2_with fail
      refine (swingO _ _ _ _ _ _ _ _ _ _ _ _).mono ?_; rintro e w2 ⟨rfl, hb2⟩
      rw [hm.out, swingV_hi rfl o0 (by omega) (by omega) (by omega) (by omega) (by omega) hu]
      obtain ⟨hc2, hf2⟩ := bcell hb2
      have hz2 : w.heap.size < w2.heap.size := by have := hb2.size; omega
      have B2 := bstep B1 hb2
      go_wp2_with fail
      refine (swingO _ _ _ _ _ _ _ _ _ _ _ _).mono ?_; rintro e w3 ⟨rfl, hb3⟩
      rw [hm.out, swingV_hi rfl o0 (by omega) t0 (by omega) (by omega) (by omega) hu]
      obtain ⟨hc3, hf3⟩ := bcell hb3
      have hz3 : w.heap.size < w3.heap.size := by have := hb3.size; omega
      have B3 := bstep B2 hb3
      go_wp2_with fail
      refine (known _).mono ?_; rintro e w4 ⟨rfl, hb4⟩
      obtain ⟨hc4, hf4⟩ := bcell hb4
      have hz4 : w.heap.size < w4.heap.size := by have := hb4.size; omega
      have B4 := bstep B3 hb4
      go_wp2_with fail
      refine (metreCheck _ _ _ _ _ _ _ _ _).mono ?_; rintro e w5 ⟨rfl, hb5⟩
      rw [hm.out]
      clear l1 l2 l3 l4 l5
      have e1 : decide (tick ≤ tick + more) = true := decide_eq_true (by omega)
      have e2 : decide (tick < tick - (off + tick) % 483840 + 483840) = true := decide_eq_true (by omega)
      by_cases ht : (off + tick) % 483840 = 0
      · have ht' : ((off + tick) % 483840 != 0) = false := by simpa using ht
        clear ht
        go_wp2_with fail
        go_ret
        exact ⟨rfl, bstep B4 hb5⟩
      · have ht' : ((off + tick) % 483840 != 0) = true := by simpa using ht
        clear ht
        go_wp2_with fail
        go_ret
        exact ⟨rfl, bstep B4 hb5⟩
    · rw [swingV_lo hM o0 (by omega) t0 (by omega) (by omega) (by omega) (by omega)]
      subst hM
      go_wp2_with fail
      refine (swingO _ _ _ _ _ _ _ _ _ _ _ _).mono ?_; rintro e w2 ⟨rfl, hb2⟩
      rw [hm.out, swingV_lo rfl o0 (by omega) (by omega) (by omega) (by omega) (by omega) (by omega)]
      obtain ⟨hc2, hf2⟩ := bcell hb2
      have hz2 : w.heap.size < w2.heap.size := by have := hb2.size; omega
      have B2 := bstep B1 hb2
      go_wp2_with fail
      refine (swingO _ _ _ _ _ _ _ _ _ _ _ _).mono ?_; rintro e w3 ⟨rfl, hb3⟩
      rw [hm.out, swingV_lo rfl o0 (by omega) t0 (by omega) (by omega) (by omega) (by omega), l2]
      obtain ⟨hc3, hf3⟩ := bcell hb3
      have hz3 : w.heap.size < w3.heap.size := by have := hb3.size; omega
      have B3 := bstep B2 hb3
      go_wp2_with fail
      refine (known _).mono ?_; rintro e w4 ⟨rfl, hb4⟩
      obtain ⟨hc4, hf4⟩ := bcell hb4
      have hz4 : w.heap.size < w4.heap.size := by have := hb4.size; omega
      have B4 := bstep B3 hb4
      go_wp2_with fail
      refine (metreCheck _ _ _ _ _ _ _ _ _).mono ?_; rintro e w5 ⟨rfl, hb5⟩
      rw [hm.out]
      have e1 : decide (swingT off tick (50 + sh) ≤ swingT off (tick + more) (50 + sh)) = true := decide_eq_true l1
      have e2 : decide (swingT off tick (50 + sh) < tick - (off + tick) % 483840 + 483840) = true := decide_eq_true l4
      have e3 : decide (tick ≤ swingT off tick (50 + sh)) = true := decide_eq_true l3
      clear l2
      by_cases ht : (off + tick) % 483840 = 0
      · have ht' : ((off + tick) % 483840 != 0) = false := by simpa using ht
        have e4 : (swingT off tick (50 + sh) == tick) = true := by simpa using l5 ht
        clear ht l5
        go_wp2_with fail
        go_ret
        exact ⟨rfl, bstep B4 hb5⟩
      · have ht' : ((off + tick) % 483840 != 0) = true := by simpa using ht
        clear ht l5
        go_wp2_with fail
        go_ret
        exact ⟨rfl, bstep B4 hb5⟩
  · have hM' : (M != 0) = true := by simpa using hM
    rw [swingV_err hM]
    go_wp2_with fail
    refine (swingO _ _ _ _ _ _ _ _ _ _ _ _).mono ?_; rintro e w2 ⟨rfl, hb2⟩
    rw [hm.out, swingV_err hM]
    obtain ⟨hc2, hf2⟩ := bcell hb2
    have hz2 : w.heap.size < w2.heap.size := by have := hb2.size; omega
    have B2 := bstep B1 hb2
    go_wp2_with fail
    refine (swingO _ _ _ _ _ _ _ _ _ _ _ _).mono ?_; rintro e w3 ⟨rfl, hb3⟩
    rw [hm.out, swingV_err hM]
    obtain ⟨hc3, hf3⟩ := bcell hb3
    have hz3 : w.heap.size < w3.heap.size := by have := hb3.size; omega
    have B3 := bstep B2 hb3
    go_wp2_with fail
    refine (known _).mono ?_; rintro e w4 ⟨rfl, hb4⟩
    obtain ⟨hc4, hf4⟩ := bcell hb4
    have hz4 : w.heap.size < w4.heap.size := by have := hb4.size; omega
    have B4 := bstep B3 hb4
    go_wp2_with fail
    refine (metreCheck _ _ _ _ _ _ _ _ _).mono ?_; rintro e w5 ⟨rfl, hb5⟩
    rw [hm.out]
    clear hM
    go_wp2_with fail
    go_ret
    exact ⟨rfl, bstep B4 hb5⟩
end Go.Proofs.Ytaklcnhenapckaa
