/- TempoFloors. -/
import Derived.Test.YtgfbmdpjgcibjaaE12
namespace Go.Proofs.Ytgfbmdpjgcibjaa
open Go.RowKit

theorem floor_low {fr tp L k lo : Int} (L0 : 1 ≤ L) (k0 : 0 ≤ k) (k1 : k ≤ L) (h1 : lo ≤ fr) (h2 : lo ≤ tp) : k * lo / 483840 ≤ intF fr tp L k := by
  have a1 : lo * (2 * L - k) ≤ fr * (2 * L - k) := Int.mul_le_mul_of_nonneg_right h1 (by omega)
  have a2 : lo * k ≤ tp * k := Int.mul_le_mul_of_nonneg_right h2 k0
  have a3 : lo * (2 * L) = lo * (2 * L - k) + lo * k := by rw [← Int.mul_add]; congr 1; omega
  have a4 : k * (lo * (2 * L)) ≤ k * (fr * (2 * L - k) + tp * k) := Int.mul_le_mul_of_nonneg_left (by omega) k0
  have a5 : k * lo / 483840 = k * (lo * (2 * L)) / (2 * L * 483840) := by
    rw [← Int.mul_assoc k, Int.mul_comm (2 * L) 483840, Int.mul_ediv_mul_of_pos_left _ _ (by omega)]
  unfold intF
  rw [a5]
  exact Int.ediv_le_ediv (by omega) a4
theorem floor_high {fr tp L k hi : Int} (L0 : 1 ≤ L) (k0 : 0 ≤ k) (k1 : k ≤ L) (h1 : fr ≤ hi) (h2 : tp ≤ hi) : intF fr tp L k ≤ k * hi / 483840 := by
  have a1 : fr * (2 * L - k) ≤ hi * (2 * L - k) := Int.mul_le_mul_of_nonneg_right h1 (by omega)
  have a2 : tp * k ≤ hi * k := Int.mul_le_mul_of_nonneg_right h2 k0
  have a3 : hi * (2 * L) = hi * (2 * L - k) + hi * k := by rw [← Int.mul_add]; congr 1; omega
  have a4 : k * (fr * (2 * L - k) + tp * k) ≤ k * (hi * (2 * L)) := Int.mul_le_mul_of_nonneg_left (by omega) k0
  have a5 : k * hi / 483840 = k * (hi * (2 * L)) / (2 * L * 483840) := by
    rw [← Int.mul_assoc k, Int.mul_comm (2 * L) 483840, Int.mul_ediv_mul_of_pos_left _ _ (by omega)]
  unfold intF
  rw [a5]
  exact Int.ediv_le_ediv (by omega) a4
theorem floor_all (fr tp L : Int) (L0 : 1 ≤ L) : intF fr tp L L = L * (fr + tp) / 967680 := by
  unfold intF
  have a1 : fr * (2 * L - L) + tp * L = L * (fr + tp) := by rw [show 2 * L - L = L by omega, ← Int.add_mul, Int.mul_comm]
  rw [a1, show 2 * L * 483840 = L * 967680 by omega, Int.mul_ediv_mul_of_pos _ _ (by omega)]
theorem floor_mono {fr tp L k : Int} (f0 : 0 ≤ fr) (t0 : 0 ≤ tp) (L0 : 1 ≤ L) (k0 : 0 ≤ k) (k1 : k ≤ L) : intF fr tp L k ≤ intF fr tp L L := by
  unfold intF
  refine Int.ediv_le_ediv (by omega) ?_
  have b1 : k * k ≤ L * L := Int.mul_le_mul k1 k1 k0 (by omega)
  have b2 : k * (2 * L - k) ≤ L * L := by
    have : 0 ≤ (L - k) * (L - k) := Int.mul_nonneg (by omega) (by omega)
    rw [Int.sub_mul, Int.mul_sub, Int.mul_sub] at this
    rw [Int.mul_sub, show k * (2 * L) = k * L + k * L by rw [← Int.mul_assoc, Int.mul_comm k 2, Int.mul_assoc]; omega]
    have e : L * k = k * L := Int.mul_comm _ _
    omega
  have c1 : fr * (k * (2 * L - k)) ≤ fr * (L * L) := Int.mul_le_mul_of_nonneg_left b2 f0
  have c2 : tp * (k * k) ≤ tp * (L * L) := Int.mul_le_mul_of_nonneg_left b1 t0
  rw [Int.mul_add, Int.mul_add, ← Int.mul_assoc k fr, Int.mul_comm k fr, Int.mul_assoc fr, ← Int.mul_assoc k tp, Int.mul_comm k tp, Int.mul_assoc tp, show 2 * L - L = L by omega,
    ← Int.mul_assoc L fr, Int.mul_comm L fr, Int.mul_assoc fr, ← Int.mul_assoc L tp, Int.mul_comm L tp, Int.mul_assoc tp]
  omega

set_option maxHeartbeats 2000000 in
theorem floorsC (a b l t : Int) (w : World) (a0 : 0 ≤ a) (a1 : a ≤ 4294967295) (b0 : 0 ≤ b) (b1 : b ≤ 4294967295) (l0 : 0 ≤ l) (l1 : l ≤ 4294967295) (t0 : 0 ≤ t) (t1 : t ≤ 4294967295) :
    Calls Try.prog 3 #[.agg #[.int .u32 a, .int .u32 b], .int .u32 l, .int .u32 t] w fun r w' => r = .returned (.bool true) ∧ Below w.heap.size w w' := by
  go_enter Try.func3, Try.ntmps3
  go_wp2_with fail
  go_quiet (fail)
  go_wp2_with fail
  have f0 : 1 ≤ 1 + a % 1048576 ∧ 1 + a % 1048576 ≤ 1048576 := by omega
  have p0 : 1 ≤ 1 + b % 1048576 ∧ 1 + b % 1048576 ≤ 1048576 := by omega
  have n0 : 1 ≤ 1 + l % 1048576 ∧ 1 + l % 1048576 ≤ 1048576 := by omega
  have k0 : 0 ≤ t % (1 + l % 1048576 + 1) ∧ t % (1 + l % 1048576 + 1) ≤ 1 + l % 1048576 := by
    have h1 := Int.emod_nonneg t (b := 1 + l % 1048576 + 1) (by omega)
    have h2 := Int.emod_lt_of_pos t (b := 1 + l % 1048576 + 1) (by omega)
    omega
  generalize 1 + a % 1048576 = F at f0 ⊢
  generalize 1 + b % 1048576 = T at p0 ⊢
  generalize 1 + l % 1048576 = L at n0 k0 ⊢
  generalize t % (L + 1) = K at k0 ⊢
  have okA : okI F T L K := by unfold okI; omega
  have okB : okI F T L L := by unfold okI; omega
  have q1 := floor_mono (fr := F) (tp := T) (L := L) (k := K) (by omega) (by omega) (by omega) (by omega) (by omega)
  have q2 := floor_all F T L (by omega)
  have hA := fun w => integralOk F T L K w okA
  have hB := fun w => integralOk F T L L w okB
  have m1 := mul_bd (a := K) (b := F) (x := 1048576) (y := 1048576) (by omega) (by omega) (by omega) (by omega)
  have m2 := mul_bd (a := K) (b := T) (x := 1048576) (y := 1048576) (by omega) (by omega) (by omega) (by omega)
  have m3 := mul_bd (a := L) (b := F + T) (x := 1048576) (y := 2097152) (by omega) (by omega) (by omega) (by omega)
  have q3 : K * (if F ≤ T then F else T) / 483840 ≤ intF F T L K := floor_low (by omega) (by omega) (by omega) (by split <;> omega) (by split <;> omega)
  have q4 : intF F T L K ≤ K * (if F ≤ T then T else F) / 483840 := floor_high (by omega) (by omega) (by omega) (by split <;> omega) (by split <;> omega)
  clear okA okB a0 a1 b0 b1 l0 l1 t0 t1
  generalize intF F T L K = A at *
  generalize intF F T L L = B at *
  refine (hA _).mono ?_
  rintro e w1 ⟨rfl, x1, rfl⟩
  go_wp2_with fail
  refine (hB _).mono ?_
  rintro e w2 ⟨rfl, x2, rfl⟩
  go_wp2_with fail
  refine (known _).mono ?_
  rintro e w3 ⟨rfl, hb3⟩
  have hb : Below w.heap.size w w3 := (below_drewN' ((Below.refl _ w).alloc (Nat.le_refl _) _) _).trans (hb3.mono (by simp))
  by_cases hFT : F ≤ T
  · rw [if_pos hFT] at q3 q4
    have e1 : min F T = F := Int.min_eq_left hFT
    have e2 : max F T = T := Int.max_eq_right hFT
    go_wp2_with fail
    go_ret
    exact ⟨rfl, hb⟩
  · rw [if_neg hFT] at q3 q4
    have e1 : min F T = T := Int.min_eq_right (by omega)
    have e2 : max F T = F := Int.max_eq_left (by omega)
    go_wp2_with fail
    go_ret
    exact ⟨rfl, hb⟩
end Go.Proofs.Ytgfbmdpjgcibjaa
