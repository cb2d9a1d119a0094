/- The plain mathematics of math/bits.Div64, whole. -/
import Derived.Test.YtgfbmdpjgcibjaaM1
import Derived.Laws.BitsAllLaws
import Derived.Lib.BitFns
import Derived.Lib.ItoaNum
namespace Go.Proofs.Ytgfbmdpjgcibjaa

theorem mask32 (x : Int) (h0 : 0 ≤ x) (h1 : x < 18446744073709551616) : bits .and .u64 x 4294967295 = x % 4294967296 := by
  obtain ⟨n, rfl⟩ := Int.eq_ofNat_of_zero_le h0
  rw [u64_and _ _ (by omega) h1 (by omega) (by omega)]
  have e : (4294967295 : Int).toNat = 2 ^ 32 - 1 := rfl
  rw [e, Int.toNat_natCast, Nat.and_two_pow_sub_one_eq_mod]
  omega

theorem or_add (a b : Int) (s : Nat) (ha : 0 ≤ a) (hb : 0 ≤ b) (hb2 : b < 2 ^ s) (h : a * 2 ^ s + b < 18446744073709551616) : bits .or .u64 (a * 2 ^ s) b = a * 2 ^ s + b := by
  obtain ⟨a, rfl⟩ := Int.eq_ofNat_of_zero_le ha
  obtain ⟨b, rfl⟩ := Int.eq_ofNat_of_zero_le hb
  have hb3 : b < 2 ^ s := by
    have : ((b : Nat) : Int) < ((2 ^ s : Nat) : Int) := by simpa using hb2
    omega
  have e : ((a : Int) * 2 ^ s) = ((a * 2 ^ s : Nat) : Int) := by simp
  rw [e] at h ⊢
  rw [u64_or _ _ (by omega) (by omega) (by omega) (by omega), Int.toNat_natCast, Int.toNat_natCast, Nat.mul_comm a, ← Nat.two_pow_add_eq_or_of_lt hb3]
  simp

/-- The shifted dividend. -/
theorem shifted (hi lo : Int) (s : Nat) (hs : s ≤ 63) (l0 : 0 ≤ lo) (l1 : lo < 18446744073709551616) :
    0 ≤ lo / 2 ^ (64 - s) ∧ lo / 2 ^ (64 - s) < 2 ^ s ∧ (hi * 18446744073709551616 + lo) * 2 ^ s = (hi * 2 ^ s + lo / 2 ^ (64 - s)) * 18446744073709551616 + lo * 2 ^ s % 18446744073709551616 := by
  obtain ⟨lo, rfl⟩ := Int.eq_ofNat_of_zero_le l0
  have hp : 2 ^ (64 - s) * 2 ^ s = 18446744073709551616 := by rw [← Nat.pow_add, show 64 - s + s = 64 by omega]
  have h1 : lo / 2 ^ (64 - s) < 2 ^ s := by
    apply (Nat.div_lt_iff_lt_mul (Nat.pow_pos (by omega))).2
    rw [Nat.mul_comm, hp]; omega
  have h2 : lo * 2 ^ s / 18446744073709551616 = lo / 2 ^ (64 - s) := by
    rw [← hp, Nat.mul_div_mul_right _ _ (Nat.pow_pos (by omega))]
  have c1 : ((lo : Int) / 2 ^ (64 - s)) = ((lo / 2 ^ (64 - s) : Nat) : Int) := by simp
  have c2 : ((lo : Int) * 2 ^ s) = ((lo * 2 ^ s : Nat) : Int) := by simp
  have c3 : ((2 : Int) ^ s) = ((2 ^ s : Nat) : Int) := by simp
  refine ⟨by rw [c1]; omega, by rw [c1, c3]; omega, ?_⟩
  have h3 := Nat.mod_add_div (lo * 2 ^ s) 18446744073709551616
  rw [h2] at h3
  have h4 : ((lo : Int) * 2 ^ s) = (lo : Int) * 2 ^ s % 18446744073709551616 + 18446744073709551616 * ((lo : Int) / 2 ^ (64 - s)) := by
    rw [c1, c2]; omega
  have e1 : (hi * 18446744073709551616 + (lo : Int)) * 2 ^ s = hi * 2 ^ s * 18446744073709551616 + (lo : Int) * 2 ^ s := by
    rw [Int.add_mul, Int.mul_right_comm]
  rw [e1]
  generalize (lo : Int) * 2 ^ s = X at *
  generalize hi * 2 ^ s = Z at *
  generalize (lo : Int) / 2 ^ (64 - s) = V at *
  omega

/-- Two digits make the quotient and the rest. -/
theorem digits {N y p U L Y q1 q0 : Int} (hp : 0 < p) (hN : N * p = U * 18446744073709551616 + L) (hY : Y = y * p) (hy : 0 < y)
    (h0 : 0 ≤ (U * 4294967296 + L / 4294967296 - q1 * Y) * 4294967296 + L % 4294967296 - q0 * Y)
    (h2 : (U * 4294967296 + L / 4294967296 - q1 * Y) * 4294967296 + L % 4294967296 - q0 * Y < Y) :
    q1 * 4294967296 + q0 = N / y ∧ ((U * 4294967296 + L / 4294967296 - q1 * Y) * 4294967296 + L % 4294967296 - q0 * Y) / p = N % y := by
  have e : (U * 4294967296 + L / 4294967296 - q1 * Y) * 4294967296 + L % 4294967296 - q0 * Y = (N - (q1 * 4294967296 + q0) * y) * p := by
    have f1 : (N - (q1 * 4294967296 + q0) * y) * p = N * p - (q1 * 4294967296 + q0) * Y := by rw [Int.sub_mul, hY, Int.mul_assoc]
    have f2 : (q1 * 4294967296 + q0) * Y = q1 * Y * 4294967296 + q0 * Y := by rw [Int.add_mul, Int.mul_right_comm]
    rw [f1, f2, hN]
    omega
  rw [e] at h0 h2 ⊢
  have g0 : 0 ≤ N - (q1 * 4294967296 + q0) * y := by
    rcases Int.lt_or_le (N - (q1 * 4294967296 + q0) * y) 0 with h | h
    · have := Int.mul_neg_of_neg_of_pos h hp
      omega
    · exact h
  have g1 : N - (q1 * 4294967296 + q0) * y < y := by
    rw [hY] at h2
    exact Int.lt_of_mul_lt_mul_right h2 (by omega)
  have hq : N / y = q1 * 4294967296 + q0 := by
    have : N = (N - (q1 * 4294967296 + q0) * y) + (q1 * 4294967296 + q0) * y := by omega
    rw [this, Int.add_mul_ediv_right _ _ (by omega), Int.ediv_eq_zero_of_lt g0 g1]
    omega
  refine ⟨hq.symm, ?_⟩
  rw [Int.mul_ediv_cancel _ (by omega)]
  have := Int.emod_add_mul_ediv N y
  rw [hq, Int.mul_comm] at this
  omega

theorem lz (y : Int) (h0 : 1 ≤ y) (h1 : y ≤ 18446744073709551615) : ∃ s : Nat, 64 - (Lib.bitLen y.toNat : Int) = (s : Int) ∧ s ≤ 63 ∧ 9223372036854775808 ≤ y * 2 ^ s ∧ y * 2 ^ s ≤ 18446744073709551615 := by
  obtain ⟨n, rfl⟩ := Int.eq_ofNat_of_zero_le (show 0 ≤ y by omega)
  have hb := Lib.bitLenAux_bounds 64 n (by simp; omega) (by omega)
  obtain ⟨b1, b2, b3⟩ := hb
  have b4 : Lib.bitLenAux 64 n ≤ 64 := by
    rcases Nat.lt_or_ge 64 (Lib.bitLenAux 64 n) with h | h
    · exfalso
      have : 2 ^ 64 ≤ 2 ^ (Lib.bitLenAux 64 n - 1) := Nat.pow_le_pow_right (by omega) (by omega)
      omega
    · exact h
  refine ⟨64 - Lib.bitLenAux 64 n, by simp [Lib.bitLen]; omega, by omega, ?_, ?_⟩
  · have e : 2 ^ 63 = 2 ^ (Lib.bitLenAux 64 n - 1) * 2 ^ (64 - Lib.bitLenAux 64 n) := by rw [← Nat.pow_add]; congr 1; omega
    have := Nat.mul_le_mul_right (2 ^ (64 - Lib.bitLenAux 64 n)) b2
    rw [← e] at this
    have h : ((2 ^ 63 : Nat) : Int) ≤ ((n * 2 ^ (64 - Lib.bitLenAux 64 n) : Nat) : Int) := by omega
    simpa using h
  · have e : 2 ^ 64 = 2 ^ (Lib.bitLenAux 64 n) * 2 ^ (64 - Lib.bitLenAux 64 n) := by rw [← Nat.pow_add]; congr 1; omega
    have hp : 0 < 2 ^ (64 - Lib.bitLenAux 64 n) := Nat.pow_pos (by omega)
    have := Nat.mul_lt_mul_of_pos_right b3 hp
    rw [← e] at this
    have h : ((n * 2 ^ (64 - Lib.bitLenAux 64 n) : Nat) : Int) < ((2 ^ 64 : Nat) : Int) := by omega
    have h2 : (n : Int) * 2 ^ (64 - Lib.bitLenAux 64 n) < 18446744073709551616 := by simpa using h
    omega
end Go.Proofs.Ytgfbmdpjgcibjaa
