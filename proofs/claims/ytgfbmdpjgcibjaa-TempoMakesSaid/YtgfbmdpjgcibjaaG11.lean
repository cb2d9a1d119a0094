/- The model's line: plain. -/
import Derived.Test.YtgfbmdpjgcibjaaG10
namespace Go.Proofs.Ytgfbmdpjgcibjaa
open Go.RowKit

theorem line_up {f t L k : Int} (L0 : 1 ≤ L) : (f * (L - k) + t * k) / L = f + (t - f) * k / L := by
  have e : f * (L - k) + t * k = (t - f) * k + f * L := by rw [Int.mul_sub, Int.sub_mul]; omega
  rw [e, Int.add_mul_ediv_right _ _ (by omega), Int.add_comm]
theorem line_down {f t L k : Int} (L0 : 1 ≤ L) : (f * (L - k) + t * k) / L = if (f - t) * k % L > 0 then f - ((f - t) * k / L + 1) else f - (f - t) * k / L := by
  rw [line_up L0]
  have e : (t - f) * k = -((f - t) * k) := by rw [← Int.neg_mul]; congr 1; omega
  rw [e]
  generalize (f - t) * k = D
  have h1 := Int.emod_add_mul_ediv D L
  have h2 := Int.emod_nonneg D (b := L) (by omega)
  have h3 := Int.emod_lt_of_pos D (b := L) (by omega)
  split
  · have : -D / L = -(D / L + 1) := by
      refine (Int.ediv_emod_unique (by omega) (r := L - D % L) |>.mpr ⟨?_, by omega, by omega⟩).1
      rw [Int.mul_neg, Int.mul_add]
      omega
    omega
  · have : -D / L = -(D / L) := by
      refine (Int.ediv_emod_unique (by omega) (r := 0) |>.mpr ⟨?_, by omega, by omega⟩).1
      rw [Int.mul_neg]
      omega
    omega
end Go.Proofs.Ytgfbmdpjgcibjaa
