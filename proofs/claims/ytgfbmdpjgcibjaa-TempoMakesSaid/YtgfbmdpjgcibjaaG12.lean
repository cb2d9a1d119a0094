/- The model's line: walk. -/
import Derived.Test.YtgfbmdpjgcibjaaG11
namespace Go.Proofs.Ytgfbmdpjgcibjaa
open Go.RowKit

set_option maxHeartbeats 1000000 in
theorem lineUp (f t L k : Int) (w : World) (f0 : 1 ≤ f) (t1 : t ≤ 60000000) (hft : f ≤ t) (L0 : 1 ≤ L) (L1 : L ≤ 4398046511104) (k0 : 0 ≤ k) (k1 : k ≤ L) :
    Calls Try.prog 43 #[.int .i64 f, .int .i64 t, .int .i64 L, .int .i64 k] w fun r w' => r = .returned (.int .i64 ((f * (L - k) + t * k) / L)) ∧ ∃ m, w' = w.drewN m := by
  rw [line_up L0]
  have em : max (t - f) (f - t) = t - f := Int.max_eq_left (by omega)
  have hD : 0 ≤ (t - f) * k ∧ (t - f) * k ≤ 60000000 * L := ⟨Int.mul_nonneg (by omega) k0, Int.mul_le_mul (by omega) k1 k0 (by omega)⟩
  have hm := fun w => mul64 (t - f) k (by omega) (by omega) k0 (by omega) w
  generalize (t - f) * k = D at *
  have hd := fun w => div64 (hi64 D) (lo64 D) L w (hi64_nn hD.1) (by unfold hi64; omega) (by omega) (lo64_bd D).1 (lo64_bd D).2
  have e1 : quoF (hi64 D) (lo64 D) L = D / L := by unfold quoF; rw [show hi64 D * 18446744073709551616 + lo64 D = D by unfold hi64 lo64; omega]
  rw [e1] at hd
  have hq : 0 ≤ D / L ∧ D / L ≤ 60000000 := ⟨Int.ediv_nonneg hD.1 (by omega), Int.ediv_le_of_le_mul (by omega) hD.2⟩
  go_enter Try.func43, Try.ntmps43
  go_wp2_with fail
  refine (hm _).mono ?_
  rintro e w1 ⟨rfl, rfl⟩
  go_wp2_with fail
  refine (hd _).mono ?_
  rintro e w2 ⟨rfl, q, rfl⟩
  go_wp2_with fail
  go_ret
  exact ⟨rfl, _, rfl⟩

set_option maxHeartbeats 1000000 in
theorem lineDown (f t L k : Int) (w : World) (f1 : f ≤ 60000000) (t0 : 1 ≤ t) (hft : t < f) (L0 : 1 ≤ L) (L1 : L ≤ 4398046511104) (k0 : 0 ≤ k) (k1 : k ≤ L) :
    Calls Try.prog 43 #[.int .i64 f, .int .i64 t, .int .i64 L, .int .i64 k] w fun r w' => r = .returned (.int .i64 ((f * (L - k) + t * k) / L)) ∧ ∃ m, w' = w.drewN m := by
  rw [line_down L0]
  have em : max (t - f) (f - t) = f - t := Int.max_eq_right (by omega)
  have hD : 0 ≤ (f - t) * k ∧ (f - t) * k ≤ 60000000 * L := ⟨Int.mul_nonneg (by omega) k0, Int.mul_le_mul (by omega) k1 k0 (by omega)⟩
  have hm := fun w => mul64 (f - t) k (by omega) (by omega) k0 (by omega) w
  generalize (f - t) * k = D at *
  have hd := fun w => div64 (hi64 D) (lo64 D) L w (hi64_nn hD.1) (by unfold hi64; omega) (by omega) (lo64_bd D).1 (lo64_bd D).2
  have e0 : hi64 D * 18446744073709551616 + lo64 D = D := by unfold hi64 lo64; omega
  have e1 : quoF (hi64 D) (lo64 D) L = D / L := by unfold quoF; rw [e0]
  have e2 : remF (hi64 D) (lo64 D) L = D % L := by unfold remF; rw [e0]
  rw [e1, e2] at hd
  have hq : 0 ≤ D / L ∧ D / L ≤ 60000000 := ⟨Int.ediv_nonneg hD.1 (by omega), Int.ediv_le_of_le_mul (by omega) hD.2⟩
  clear e0 e1 e2
  have hr := Int.emod_nonneg D (b := L) (by omega)
  generalize D / L = Q at *
  generalize D % L = R at *
  by_cases h : R > 0
  · rw [if_pos h]
    go_enter Try.func43, Try.ntmps43
    go_wp2_with fail
    refine (hm _).mono ?_
    rintro e w1 ⟨rfl, rfl⟩
    go_wp2_with fail
    refine (hd _).mono ?_
    rintro e w2 ⟨rfl, q, rfl⟩
    go_wp2_with fail
    go_ret
    exact ⟨rfl, _, rfl⟩
  · rw [if_neg h]
    go_enter Try.func43, Try.ntmps43
    go_wp2_with fail
    refine (hm _).mono ?_
    rintro e w1 ⟨rfl, rfl⟩
    go_wp2_with fail
    refine (hd _).mono ?_
    rintro e w2 ⟨rfl, q, rfl⟩
    go_wp2_with fail
    go_ret
    exact ⟨rfl, _, rfl⟩
end Go.Proofs.Ytgfbmdpjgcibjaa
