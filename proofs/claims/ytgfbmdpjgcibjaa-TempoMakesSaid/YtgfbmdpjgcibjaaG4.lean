/- Times never decrease: plain. -/
import Derived.Test.YtgfbmdpjgcibjaaE12
namespace Go.Proofs.Ytgfbmdpjgcibjaa
open Go.RowKit

theorem intF_mono {fr tp L j k : Int} (f0 : 0 ≤ fr) (t0 : 0 ≤ tp) (j0 : 0 ≤ j) (jk : j ≤ k) (k1 : k ≤ L) (L0 : 1 ≤ L) : intF fr tp L j ≤ intF fr tp L k := by
  unfold intF
  refine Int.ediv_le_ediv (by omega) ?_
  have b1 : j * j ≤ k * k := Int.mul_le_mul jk jk j0 (by omega)
  have b2 : j * (2 * L - j) ≤ k * (2 * L - k) := by
    have h : 0 ≤ (k - j) * (2 * L - k - j) := Int.mul_nonneg (by omega) (by omega)
    have e : (k - j) * (2 * L - k - j) = k * (2 * L - k) - j * (2 * L - j) := by
      rw [Int.sub_mul, Int.mul_sub k, Int.mul_sub j (2 * L - k), Int.mul_sub j (2 * L) k, Int.mul_sub j (2 * L) j, Int.mul_comm j k]
      omega
    omega
  have c1 : fr * (j * (2 * L - j)) ≤ fr * (k * (2 * L - k)) := Int.mul_le_mul_of_nonneg_left b2 f0
  have c2 : tp * (j * j) ≤ tp * (k * k) := Int.mul_le_mul_of_nonneg_left b1 t0
  have d : ∀ k : Int, k * (fr * (2 * L - k) + tp * k) = fr * (k * (2 * L - k)) + tp * (k * k) := fun k => by
    rw [Int.mul_add, ← Int.mul_assoc k fr, Int.mul_comm k fr, Int.mul_assoc fr, ← Int.mul_assoc k tp, Int.mul_comm k tp, Int.mul_assoc tp]
  rw [d j, d k]
  omega
theorem intF_zero (fr tp L : Int) : intF fr tp L 0 = 0 := by unfold intF; simp
theorem intF_flat (fr L k : Int) (L0 : 1 ≤ L) : intF fr fr L k = k * fr / 483840 := by
  unfold intF
  have e : fr * (2 * L - k) + fr * k = fr * (2 * L) := by rw [← Int.mul_add]; congr 1; omega
  rw [e, ← Int.mul_assoc k, Int.mul_comm (2 * L) 483840, Int.mul_ediv_mul_of_pos_left _ _ (by omega)]

theorem Okay.until_mono {X : Nat → St} {n : Nat} (h : Okay X n) {k : Nat} (hk : k < n) {a b : Int} (h0 : (X k).b ≤ a) (hab : a ≤ b) (h1 : b ≤ (X k).e) : untilF (timedAt X k) a ≤ untilF (timedAt X k) b := by
  have hb := h.be k hk
  have := intF_mono (fr := (X k).f) (tp := (X k).t) (L := (X k).e - (X k).b) (j := a - (X k).b) (k := b - (X k).b) (by have := h.f0 k hk; omega) (by have := h.t0 k hk; omega) (by omega) (by omega) (by omega) (by omega)
  show tmF X k + _ ≤ tmF X k + _
  exact Int.add_le_add_left this _
theorem until_begin (X : Nat → St) (k : Nat) : untilF (timedAt X k) (X k).b = tmF X k := by
  show tmF X k + intF _ _ _ ((X k).b - (X k).b) = tmF X k
  rw [Int.sub_self, intF_zero, Int.add_zero]
theorem until_end (X : Nat → St) (k : Nat) : untilF (timedAt X k) (X k).e = tmF X (k + 1) := rfl
theorem Okay.tm_mono {X : Nat → St} {n : Nat} (h : Okay X n) (j : Nat) : ∀ d, j + d ≤ n → tmF X j ≤ tmF X (j + d)
  | 0, _ => Int.le_refl _
  | d + 1, hd => by
    have h1 := h.tm_mono j d (by omega)
    have h2 := h.until_mono (k := j + d) (by omega) (Int.le_refl _) (Int.le_of_lt (h.be (j + d) (by omega))) (Int.le_refl _)
    rw [until_begin, until_end] at h2
    rw [show j + (d + 1) = j + d + 1 by omega]
    omega
theorem Okay.k_mono {X : Nat → St} {n : Nat} (h : Okay X n) {a b : Int} (h0 : 0 ≤ a) (hab : a ≤ b) (h1 : b ≤ (X (n - 1)).e) : kF X n a ≤ kF X n b := by
  obtain ⟨_, ka, a1, a2, a3⟩ := kF_spec h h0 (Int.le_trans hab h1)
  obtain ⟨_, kb, b1, b2, b3⟩ := kF_spec h (Int.le_trans h0 hab) h1
  rcases Nat.lt_or_ge (kF X n b) (kF X n a) with hlt | hge
  · have h2 := b3 (by omega)
    have h3 := h.nx (kF X n b) (by omega)
    have h4 := h.asc (kF X n b + 1) (kF X n a - (kF X n b + 1)) (by omega)
    rw [show kF X n b + 1 + (kF X n a - (kF X n b + 1)) = kF X n a by omega] at h4
    omega
  · exact hge
theorem Okay.micros_mono {X : Nat → St} {n : Nat} (h : Okay X n) {a b : Int} (h0 : 0 ≤ a) (hab : a ≤ b) (h1 : b ≤ (X (n - 1)).e) : microsAt X n a ≤ microsAt X n b := by
  have hk := h.k_mono h0 hab h1
  obtain ⟨_, ka, a1, a2, a3⟩ := kF_spec h h0 (Int.le_trans hab h1)
  obtain ⟨_, kb, b1, b2, b3⟩ := kF_spec h (Int.le_trans h0 hab) h1
  unfold microsAt
  rcases Nat.lt_or_ge (kF X n a) (kF X n b) with hlt | hge
  · have u1 := h.until_mono ka a1 a2 (Int.le_refl _)
    have u2 := h.until_mono kb (Int.le_refl _) b1 b2
    rw [until_end] at u1
    rw [until_begin] at u2
    have u3 := h.tm_mono (kF X n a + 1) (kF X n b - (kF X n a + 1)) (by omega)
    rw [show kF X n a + 1 + (kF X n b - (kF X n a + 1)) = kF X n b by omega] at u3
    omega
  · have e : kF X n a = kF X n b := by omega
    rw [e] at a1 ⊢
    exact h.until_mono kb a1 hab b2
theorem Okay.end_pos {X : Nat → St} {n : Nat} (h : Okay X n) : 0 < (X (n - 1)).e := by
  have h0 := h.n0
  have h1 := h.be (n - 1) (by omega)
  have h2 := h.begin0 (n - 1) (by omega)
  omega
theorem Okay.micros_zero {X : Nat → St} {n : Nat} (h : Okay X n) : microsAt X n 0 = 0 := by
  have he := h.end_pos
  obtain ⟨_, ka, a1, a2, a3⟩ := kF_spec h (Int.le_refl 0) (Int.le_of_lt he)
  unfold microsAt
  have hk : kF X n 0 = 0 := by
    rcases Nat.eq_zero_or_pos (kF X n 0) with e | e
    · exact e
    · have h1 := h.be 0 h.n0
      rw [h.b0] at h1
      have h2 := h.nx 0 (by omega)
      have h3 := h.asc 1 (kF X n 0 - 1) (by omega)
      rw [show 1 + (kF X n 0 - 1) = kF X n 0 by omega] at h3
      rw [show 0 + 1 = 1 by omega] at h2
      omega
  rw [hk]
  have := until_begin X 0
  rw [h.b0] at this
  rw [this]; rfl
theorem Okay.micros_end {X : Nat → St} {n : Nat} (h : Okay X n) : microsAt X n (X (n - 1)).e = tmF X n := by
  have he := h.end_pos
  obtain ⟨_, ka, a1, a2, a3⟩ := kF_spec h (Int.le_of_lt he) (Int.le_refl _)
  have n0 := h.n0
  unfold microsAt
  have hk : kF X n (X (n - 1)).e = n - 1 := by
    rcases Nat.lt_or_ge (kF X n (X (n - 1)).e) (n - 1) with hlt | hge
    · have h2 := a3 (by omega)
      have h3 := h.nx (kF X n (X (n - 1)).e) (by omega)
      have h4 := h.asc (kF X n (X (n - 1)).e + 1) (n - 1 - (kF X n (X (n - 1)).e + 1)) (by omega)
      rw [show kF X n (X (n - 1)).e + 1 + (n - 1 - (kF X n (X (n - 1)).e + 1)) = n - 1 by omega] at h4
      have h5 := h.be (n - 1) (by omega)
      omega
    · omega
  rw [hk, until_end, show n - 1 + 1 = n by omega]
theorem Okay.micros_bd {X : Nat → St} {n : Nat} (h : Okay X n) {a : Int} (h0 : 0 ≤ a) (h1 : a ≤ (X (n - 1)).e) : 0 ≤ microsAt X n a ∧ microsAt X n a ≤ 549755813888000 := by
  have u1 := h.micros_mono (Int.le_refl 0) h0 h1
  rw [h.micros_zero] at u1
  have u2 := h.micros_mono h0 h1 (Int.le_refl _)
  rw [h.micros_end] at u2
  have u3 := (h.tm n (Nat.le_refl _)).2
  have n0 := h.n0
  have u4 : endF X n = (X (n - 1)).e := by obtain ⟨m, rfl⟩ : ∃ m, n = m + 1 := ⟨n - 1, by omega⟩; rfl
  have u5 := h.e1 (n - 1) (by omega)
  omega
theorem Okay.micros_flat {X : Nat → St} (h : Okay X 1) (hf : (X 0).f = (X 0).t) {a : Int} (h0 : 0 ≤ a) (h1 : a ≤ (X 0).e) : microsAt X 1 a = a * (X 0).f / 483840 := by
  obtain ⟨_, ka, _⟩ := kF_spec h h0 h1
  unfold microsAt
  rw [show kF X 1 a = 0 by omega]
  show tmF X 0 + intF (X 0).f (X 0).t ((X 0).e - (X 0).b) (a - (X 0).b) = _
  have hb := h.be 0 (by omega)
  rw [← hf, intF_flat _ _ _ (by omega), h.b0, Int.sub_zero]
  exact Int.zero_add _
end Go.Proofs.Ytgfbmdpjgcibjaa
