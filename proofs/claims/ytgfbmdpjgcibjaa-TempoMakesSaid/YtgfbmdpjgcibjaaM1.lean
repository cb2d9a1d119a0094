/- The plain mathematics of dividing two words by one (math/bits.Div64). -/
import Derived.IntWalk
namespace Go.Proofs.Ytgfbmdpjgcibjaa

/-- One digit: the estimate q of the quotient of u * 2^32 + d by y = y1 * 2^32 + y0, and r = u - q * y1. -/
structure Est (u d y1 y0 q r : Int) : Prop where
  u0 : 0 ≤ u
  uy : u < y1 * 4294967296 + y0
  d0 : 0 ≤ d
  d1 : d < 4294967296
  y1l : 2147483648 ≤ y1
  y1h : y1 < 4294967296
  y0l : 0 ≤ y0
  y0h : y0 < 4294967296
  r0 : 0 ≤ r
  rq : u = q * y1 + r
  qlo : (u * 4294967296 + d) / (y1 * 4294967296 + y0) ≤ q
  qhi : q ≤ 4294967297

variable {u d y1 y0 q r : Int}

theorem Est.Q (h : Est u d y1 y0 q r) : 0 ≤ (u * 4294967296 + d) / (y1 * 4294967296 + y0) ∧ (u * 4294967296 + d) / (y1 * 4294967296 + y0) ≤ 4294967295 := by
  obtain ⟨a1, a2, a3, a4, a5, a6, a7, a8, _, _, _, _⟩ := h
  have hy : 0 < y1 * 4294967296 + y0 := by omega
  refine ⟨Int.ediv_nonneg (by omega) (by omega), ?_⟩
  have : (u * 4294967296 + d) / (y1 * 4294967296 + y0) < 4294967296 := by
    apply (Int.ediv_lt_iff_lt_mul hy).2
    have : 4294967296 * (y1 * 4294967296 + y0) ≥ 4294967296 * (u + 1) := Int.mul_le_mul_of_nonneg_left (by omega) (by omega)
    omega
  omega

/-- The first estimate. -/
theorem est_first (h0 : 0 ≤ u) (hu : u < y1 * 4294967296 + y0) (hd : 0 ≤ d) (hd1 : d < 4294967296) (a : 2147483648 ≤ y1) (b : y1 < 4294967296) (c : 0 ≤ y0) (e : y0 < 4294967296) :
    Est u d y1 y0 (u / y1) (u - u / y1 * y1) ∧ u - u / y1 * y1 < y1 := by
  have hm := Int.emod_add_mul_ediv u y1
  have hn := Int.emod_nonneg u (show y1 ≠ 0 by omega)
  have hl := Int.emod_lt_of_pos u (show 0 < y1 by omega)
  have hr : u - u / y1 * y1 = u % y1 := by rw [Int.mul_comm]; omega
  refine ⟨⟨h0, hu, hd, hd1, a, b, c, e, by omega, by omega, ?_, ?_⟩, by omega⟩
  · -- the quotient is at most the estimate
    have hy : 0 < y1 * 4294967296 + y0 := by omega
    have : (u * 4294967296 + d) / (y1 * 4294967296 + y0) < u / y1 + 1 := by
      apply (Int.ediv_lt_iff_lt_mul hy).2
      have h1 : u + 1 ≤ (u / y1 + 1) * y1 := by rw [Int.add_mul, Int.one_mul, Int.mul_comm]; omega
      have h2 : (u + 1) * 4294967296 ≤ (u / y1 + 1) * y1 * 4294967296 := Int.mul_le_mul_of_nonneg_right h1 (by omega)
      have h3 : 0 ≤ (u / y1 + 1) * y0 := Int.mul_nonneg (by have := Int.ediv_nonneg h0 (show 0 ≤ y1 by omega); omega) c
      have h4 : (u / y1 + 1) * (y1 * 4294967296 + y0) = (u / y1 + 1) * y1 * 4294967296 + (u / y1 + 1) * y0 := by rw [Int.mul_add, Int.mul_assoc]
      omega
    omega
  · have : u / y1 < 4294967298 := by
      apply (Int.ediv_lt_iff_lt_mul (by omega)).2
      omega
    omega

/-- What an estimate that is too great says. -/
theorem Est.gt (h : Est u d y1 y0 q r) (hc : 4294967296 ≤ q ∨ r * 4294967296 + d < q * y0) : (u * 4294967296 + d) / (y1 * 4294967296 + y0) ≤ q - 1 := by
  have hQ := h.Q
  rcases hc with hc | hc
  · omega
  · have hy : 0 < y1 * 4294967296 + y0 := by have := h.y1l; have := h.y0l; omega
    have : (u * 4294967296 + d) / (y1 * 4294967296 + y0) < q := by
      apply (Int.ediv_lt_iff_lt_mul hy).2
      have h4 : q * (y1 * 4294967296 + y0) = q * y1 * 4294967296 + q * y0 := by rw [Int.mul_add, Int.mul_assoc]
      have := h.rq
      omega
    omega

theorem Est.down (h : Est u d y1 y0 q r) (hc : 4294967296 ≤ q ∨ r * 4294967296 + d < q * y0) : Est u d y1 y0 (q - 1) (r + y1) := by
  have hg := h.gt hc
  obtain ⟨a1, a2, a3, a4, a5, a6, a7, a8, a9, a10, a11, a12⟩ := h
  refine ⟨a1, a2, a3, a4, a5, a6, a7, a8, by omega, ?_, hg, by omega⟩
  have : (q - 1) * y1 = q * y1 - y1 := by rw [Int.sub_mul, Int.one_mul]
  omega

/-- The estimate is the quotient where the test says no. -/
theorem Est.eq_of_not (h : Est u d y1 y0 q r) (hc : q * y0 ≤ r * 4294967296 + d) : q = (u * 4294967296 + d) / (y1 * 4294967296 + y0) := by
  have hy : 0 < y1 * 4294967296 + y0 := by have := h.y1l; have := h.y0l; omega
  have : q ≤ (u * 4294967296 + d) / (y1 * 4294967296 + y0) := by
    apply (Int.le_ediv_iff_mul_le hy).2
    have h4 : q * (y1 * 4294967296 + y0) = q * y1 * 4294967296 + q * y0 := by rw [Int.mul_add, Int.mul_assoc]
    have := h.rq
    omega
  have := h.qlo
  omega

/-- And where the rest has grown to a digit and the estimate is at most 2^32. -/
theorem Est.eq_of_big (h : Est u d y1 y0 q r) (hr : 4294967296 ≤ r) (hq : q ≤ 4294967296) : q = (u * 4294967296 + d) / (y1 * 4294967296 + y0) := by
  apply h.eq_of_not
  have h0 := h.Q.1
  have hq0 : 0 ≤ q := by have := h.qlo; omega
  have h1 : q * y0 ≤ 4294967296 * y0 := Int.mul_le_mul_of_nonneg_right hq h.y0l
  have h2 : 4294967296 * y0 ≤ 4294967296 * 4294967295 := Int.mul_le_mul_of_nonneg_left (by have := h.y0h; omega) (by omega)
  have := h.d0
  omega
end Go.Proofs.Ytgfbmdpjgcibjaa
