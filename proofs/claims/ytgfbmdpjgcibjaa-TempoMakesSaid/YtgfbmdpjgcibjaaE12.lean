/- known. -/
import Derived.Test.YtgfbmdpjgcibjaaE8
import Derived.Test.YtgfbmdpjgcibjaaE11
namespace Go.Proofs.Ytgfbmdpjgcibjaa
open Go.RowKit

def exX (_ : Nat) : St := ⟨0, 1935360, 500000, 1000000, 0⟩
theorem exOk : wrongF exX 1 = 0 := by decide
theorem exI : intF 500000 1000000 1935360 483840 = 562500 := by decide
theorem exM : microsAt exX 1 483840 = 562500 := by decide
theorem exT : tmF exX 1 = 3000000 := by decide

theorem MapRd.drewN {w : World} {p n : Nat} {Y : Nat → St} (h : MapRd w p n Y) (m : Nat) : MapRd (w.drewN m) p n Y := h.below ((Up.refl w).drawnN m).1

theorem exRd (w : World) : RdS (w.alloc (.cells #[.int .i64 0, .int .i64 1935360, .int .i64 500000, .int .i64 1000000, .int .i64 0] 38)) w.heap.size 0 1 exX := by
  intro k hk
  obtain rfl : k = 0 := by omega
  refine ⟨?_, ?_, ?_, ?_, ?_⟩ <;> simp [go_sem, exX]

set_option maxHeartbeats 2000000 in
theorem known (w : World) : Calls Try.prog 12 #[] w fun r w' => r = .returned (.bool true) ∧ Below w.heap.size w w' := by
  have hX := wrongF_okay exOk
  have hI := integralOk 500000 1000000 1935360 483840 w (by unfold okI; omega)
  rw [exI] at hI
  go_enter Try.func12, Try.ntmps12
  go_wp2_with fail
  refine hI.mono ?_
  rintro e w1 ⟨rfl, m, rfl⟩
  go_wp2_with fail
  refine (makeC _ 0 1 1 exX _ (by omega) (by omega) (by simp) (exRd (w.drewN m))).mono ?_
  rintro e w2 ⟨h2, hb2⟩
  rcases h2 with ⟨h2, _⟩ | ⟨_, p, rfl, hM⟩
  · exact absurd exOk h2
  have hb : Below w.heap.size w w2 := (below_drewN' ((Below.refl _ w)) m |>.alloc (by simp) _).trans (hb2.mono (by simp))
  have hz := hb.size
  have hM := hM.rd
  have hQ := microsGood p 1 exX 483840 w2 hX (by omega) hM (by omega) (by decide)
  rw [exM] at hQ
  go_wp2_with fail
  refine hQ.mono ?_
  rintro e w3 ⟨rfl, hu3⟩
  have hR := totalC p 1 exX w3 hX (by omega) (hM.below hu3.1)
  rw [exT] at hR
  go_wp2_with fail
  refine hR.mono ?_
  rintro e w4 ⟨rfl, hu4⟩
  go_wp2_with fail
  go_ret
  exact ⟨rfl, (hb.trans (hu3.1.mono hz)).trans (hu4.1.mono (Nat.le_trans hz hu3.1.size))⟩
end Go.Proofs.Ytgfbmdpjgcibjaa
