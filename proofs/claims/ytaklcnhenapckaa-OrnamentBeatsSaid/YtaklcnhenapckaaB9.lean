/- The plain law of swing: within the beat, in order, nothing at 50 percent. -/
import Derived.Test.YtaklcnhenapckaaA5
namespace Go.Proofs.Ytaklcnhenapckaa
open Go.RowKit

def G (S T : Int) : Int := if T < 241920 then T * S / 241920 else S + (T - 241920) * (483840 - S) / 241920

theorem swingT_G (off tick p : Int) : swingT off tick p = tick - (off + tick) % 483840 + G (483840 * p / 100) ((off + tick) % 483840) := by
  unfold swingT G; split <;> omega

theorem le_div {a b n : Int} (hn : 0 < n) (h : a * n ≤ b) : a ≤ b / n := (Int.le_ediv_iff_mul_le hn).2 h
theorem div_lt' {a b n : Int} (hn : 0 < n) (h : a < b * n) : a / n < b := (Int.ediv_lt_iff_lt_mul hn).2 h

theorem G_lo {S T : Int} (h0 : 0 ≤ T) (h1 : T < 483840) (s0 : 241920 ≤ S) (s1 : S ≤ 362880) : T ≤ G S T ∧ G S T < 483840 ∧ (T < 241920 → G S T < S) ∧ (241920 ≤ T → S ≤ G S T) := by
  unfold G
  split
  · have a1 : T ≤ T * S / 241920 := le_div (by omega) (Int.mul_le_mul_of_nonneg_left s0 h0)
    have a2 : T * S / 241920 < S := by
      apply div_lt' (by omega)
      rw [Int.mul_comm S]
      exact Int.mul_lt_mul_of_pos_right (by omega) (by omega)
    omega
  · have a1 : 0 ≤ (T - 241920) * (483840 - S) / 241920 := Int.ediv_nonneg (Int.mul_nonneg (by omega) (by omega)) (by omega)
    have a2 : (T - 241920) * (483840 - S) / 241920 < 483840 - S := by
      apply div_lt' (by omega)
      rw [Int.mul_comm (483840 - S)]
      exact Int.mul_lt_mul_of_pos_right (by omega) (by omega)
    have a3 : T - S ≤ (T - 241920) * (483840 - S) / 241920 := by
      apply le_div (by omega)
      have e : (T - 241920) * (483840 - S) = (T - 241920) * 241920 - (T - 241920) * (S - 241920) := by
        rw [← Int.mul_sub]; congr 1; omega
      have f : (T - 241920) * (S - 241920) ≤ 241920 * (S - 241920) := Int.mul_le_mul_of_nonneg_right (by omega) (by omega)
      omega
    omega

theorem G_mono {S T U : Int} (h0 : 0 ≤ T) (h1 : T ≤ U) (h2 : U < 483840) (s0 : 241920 ≤ S) (s1 : S ≤ 362880) : G S T ≤ G S U := by
  by_cases hT : T < 241920
  · by_cases hU : U < 241920
    · unfold G
      rw [if_pos hT, if_pos hU]
      exact Int.ediv_le_ediv (by omega) (Int.mul_le_mul_of_nonneg_right h1 (by omega))
    · have a := (G_lo h0 (by omega) s0 s1).2.2.1 hT
      have b := (G_lo (S := S) (T := U) (by omega) h2 s0 s1).2.2.2 (by omega)
      omega
  · unfold G
    rw [if_neg hT, if_neg (by omega)]
    have := Int.ediv_le_ediv (c := 241920) (by omega) (Int.mul_le_mul_of_nonneg_right (show T - 241920 ≤ U - 241920 by omega) (show 0 ≤ 483840 - S by omega))
    omega

theorem G_zero (S : Int) : G S 0 = 0 := by simp [G]
theorem G_half {T : Int} : G 241920 T = T := by
  unfold G
  split
  · exact Int.mul_ediv_cancel _ (by omega)
  · rw [show (483840 - 241920 : Int) = 241920 from rfl, Int.mul_ediv_cancel _ (by omega)]; omega

/-- What the law asks. -/
theorem swing_laws (off tick more p : Int) (m0 : 0 ≤ more) (p0 : 50 ≤ p) (p1 : p ≤ 75) :
    swingT off tick p ≤ swingT off (tick + more) p ∧ swingT off tick 50 = tick ∧ tick ≤ swingT off tick p ∧ swingT off tick p < tick - (off + tick) % 483840 + 483840 ∧ ((off + tick) % 483840 = 0 → swingT off tick p = tick) := by
  have s0 : 241920 ≤ 483840 * p / 100 := by omega
  have s1 : 483840 * p / 100 ≤ 362880 := by omega
  have a0 : 0 ≤ (off + tick) % 483840 := by omega
  have a1 : (off + tick) % 483840 < 483840 := by omega
  have b0 : 0 ≤ (off + (tick + more)) % 483840 := by omega
  have b1 : (off + (tick + more)) % 483840 < 483840 := by omega
  obtain ⟨l1, l2, _, _⟩ := G_lo a0 a1 s0 s1
  obtain ⟨l3, l4, _, _⟩ := G_lo b0 b1 s0 s1
  rw [swingT_G, swingT_G, swingT_G]
  refine ⟨?_, ?_, by omega, by omega, ?_⟩
  · by_cases hq : (off + tick) / 483840 = (off + (tick + more)) / 483840
    · have := G_mono a0 (show (off + tick) % 483840 ≤ (off + (tick + more)) % 483840 by omega) b1 s0 s1
      omega
    · have : (off + tick) / 483840 < (off + (tick + more)) / 483840 := by omega
      omega
  · have e : (483840 * 50 / 100 : Int) = 241920 := rfl
    rw [e, G_half]; omega
  · intro h
    rw [h, G_zero]; omega
end Go.Proofs.Ytaklcnhenapckaa
