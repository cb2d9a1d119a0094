/- Doubled tempi: the plain law. -/
import Derived.Test.YtgfbmdpjgcibjaaG5
namespace Go.Proofs.Ytgfbmdpjgcibjaa
open Go.RowKit

/-- The k-th stretch with its tempi doubled. -/
def dbl (X : Nat → St) (k : Nat) : St := ⟨(X k).b, (X k).e, 2 * (X k).f, 2 * (X k).t, (X k).m⟩

theorem dbl_okay {X : Nat → St} {n : Nat} (h : Okay X n) (hf : ∀ k, k < n → (X k).f ≤ 30000000) (ht : ∀ k, k < n → (X k).t ≤ 30000000) : Okay (dbl X) n :=
  ⟨h.n0, h.b0, h.nx, h.be, h.e1, fun k hk => by have := h.f0 k hk; show 1 ≤ 2 * (X k).f; omega, fun k hk => by have := hf k hk; show 2 * (X k).f ≤ 60000000; omega,
    fun k hk => by have := h.t0 k hk; show 1 ≤ 2 * (X k).t; omega, fun k hk => by have := ht k hk; show 2 * (X k).t ≤ 60000000; omega⟩

theorem dbl_kF (X : Nat → St) (n : Nat) (tick : Int) : kF (dbl X) n tick = kF X n tick := rfl

theorem dbl_int (f t L k : Int) (hL : 0 < L) : 2 * intF f t L k ≤ intF (2 * f) (2 * t) L k ∧ intF (2 * f) (2 * t) L k ≤ 2 * intF f t L k + 1 := by
  unfold intF
  have e : k * (2 * f * (2 * L - k) + 2 * t * k) = 2 * (k * (f * (2 * L - k) + t * k)) := by
    rw [Int.mul_assoc 2 f, Int.mul_assoc 2 t, ← Int.mul_add, Int.mul_left_comm]
  rw [e]
  generalize k * (f * (2 * L - k) + t * k) = Z
  have hd : 0 < 2 * L * 483840 := by omega
  generalize 2 * L * 483840 = d at *
  have h1 := Int.emod_add_mul_ediv Z d
  have h2 := Int.emod_nonneg Z (b := d) (by omega)
  have h3 := Int.emod_lt_of_pos Z hd
  constructor
  · apply (Int.le_ediv_iff_mul_le hd).2
    have : 2 * (Z / d) * d = 2 * (d * (Z / d)) := by rw [Int.mul_assoc, Int.mul_comm (Z / d)]
    omega
  · have : 2 * Z / d < 2 * (Z / d) + 2 := by
      apply (Int.ediv_lt_iff_lt_mul hd).2
      have : (2 * (Z / d) + 2) * d = 2 * (d * (Z / d)) + 2 * d := by rw [Int.add_mul, Int.mul_assoc, Int.mul_comm (Z / d)]
      omega
    omega

theorem dbl_tm {X : Nat → St} {n : Nat} (h : Okay X n) : ∀ k, k ≤ n → 2 * tmF X k ≤ tmF (dbl X) k ∧ tmF (dbl X) k ≤ 2 * tmF X k + k
  | 0, _ => ⟨Int.le_refl _, Int.le_refl _⟩
  | k + 1, hk => by
    obtain ⟨h1, h2⟩ := dbl_tm h k (by omega)
    have hb := h.be k (by omega)
    obtain ⟨i1, i2⟩ := dbl_int (X k).f (X k).t ((X k).e - (X k).b) ((X k).e - (X k).b) (by omega)
    show 2 * (tmF X k + intF (X k).f (X k).t ((X k).e - (X k).b) ((X k).e - (X k).b)) ≤ tmF (dbl X) k + intF (2 * (X k).f) (2 * (X k).t) ((X k).e - (X k).b) ((X k).e - (X k).b) ∧ tmF (dbl X) k + intF (2 * (X k).f) (2 * (X k).t) ((X k).e - (X k).b) ((X k).e - (X k).b) ≤ 2 * (tmF X k + intF (X k).f (X k).t ((X k).e - (X k).b) ((X k).e - (X k).b)) + ((k + 1 : Nat) : Int)
    omega

theorem dbl_micros {X : Nat → St} {n : Nat} (h : Okay X n) {tick : Int} (h0 : 0 ≤ tick) (h1 : tick ≤ (X (n - 1)).e) :
    2 * microsAt X n tick ≤ microsAt (dbl X) n tick ∧ microsAt (dbl X) n tick ≤ 2 * microsAt X n tick + n := by
  obtain ⟨_, k1, k2, k3, _⟩ := kF_spec h h0 h1
  unfold microsAt
  rw [dbl_kF]
  generalize kF X n tick = K at *
  obtain ⟨t1, t2⟩ := dbl_tm h K (by omega)
  have hb := h.be K k1
  obtain ⟨i1, i2⟩ := dbl_int (X K).f (X K).t ((X K).e - (X K).b) (tick - (X K).b) (by omega)
  show 2 * (tmF X K + intF (X K).f (X K).t ((X K).e - (X K).b) (tick - (X K).b)) ≤ tmF (dbl X) K + intF (2 * (X K).f) (2 * (X K).t) ((X K).e - (X K).b) (tick - (X K).b) ∧ tmF (dbl X) K + intF (2 * (X K).f) (2 * (X K).t) ((X K).e - (X K).b) (tick - (X K).b) ≤ 2 * (tmF X K + intF (X K).f (X K).t ((X K).e - (X K).b) (tick - (X K).b)) + n
  omega

theorem dbl_ans {X : Nat → St} {n : Nat} (h : Okay X n) (tick : Int) :
    ansE (dbl X) n tick = ansE X n tick ∧ (2 * ansV X n tick ≤ ansV (dbl X) n tick ∧ ansV (dbl X) n tick ≤ 2 * ansV X n tick + n) ∧ 0 ≤ ansV X n tick ∧ ansV X n tick ≤ 549755813888000 := by
  refine ⟨rfl, ?_, ?_⟩
  · unfold ansV
    show 2 * (if 0 ≤ tick ∧ tick ≤ (X (n - 1)).e then _ else _) ≤ (if 0 ≤ tick ∧ tick ≤ (X (n - 1)).e then _ else _) ∧ (if 0 ≤ tick ∧ tick ≤ (X (n - 1)).e then _ else _) ≤ 2 * (if 0 ≤ tick ∧ tick ≤ (X (n - 1)).e then _ else _) + (n : Int)
    by_cases c : 0 ≤ tick ∧ tick ≤ (X (n - 1)).e
    · simp only [if_pos c]
      exact dbl_micros h c.1 c.2
    · simp only [if_neg c]
      omega
  · unfold ansV
    split
    · rename_i c
      exact h.micros_bd c.1 c.2
    · omega
end Go.Proofs.Ytgfbmdpjgcibjaa
