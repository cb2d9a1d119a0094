/- At. -/
import Derived.Test.YtgfbmdpjgcibjaaG5
namespace Go.Proofs.Ytgfbmdpjgcibjaa
open Go.RowKit

/-- The tempo at a tick of a stretch. -/
def atF (x : St) (tick : Int) : Int := (x.f * (x.e - tick) + x.t * (tick - x.b)) / (x.e - x.b)

theorem at_bd {f t u v : Int} (f0 : 1 ≤ f) (f1 : f ≤ 60000000) (t0 : 1 ≤ t) (t1 : t ≤ 60000000) (u0 : 0 ≤ u) (v0 : 0 ≤ v) : 0 ≤ f * u + t * v ∧ f * u + t * v ≤ 60000000 * (u + v) := by
  have a1 : f * u ≤ 60000000 * u := Int.mul_le_mul_of_nonneg_right f1 u0
  have a2 : t * v ≤ 60000000 * v := Int.mul_le_mul_of_nonneg_right t1 v0
  have a3 : 0 ≤ f * u := Int.mul_nonneg (by omega) u0
  have a4 : 0 ≤ t * v := Int.mul_nonneg (by omega) v0
  omega

set_option maxHeartbeats 1000000 in
theorem atC (b e f t m tick : Int) (w : World) (h : InS ⟨b, e, f, t, m⟩ tick) :
    Calls Try.prog 41 #[stV b e f t m, .int .i64 tick] w fun r w' => r = .returned (.int .i64 (atF ⟨b, e, f, t, m⟩ tick)) ∧ Up w w' := by
  obtain ⟨b0, be, e1, f0, f1, t0, t1, k0, k1, m0, m1⟩ := h
  simp only at b0 be e1 f0 f1 t0 t1 k0 k1 m0 m1
  have hs := at_bd (u := e - tick) (v := tick - b) f0 f1 t0 t1 (by omega) (by omega)
  have hS : (f * (e - tick) + t * (tick - b)) / (e - b) = atF ⟨b, e, f, t, m⟩ tick := rfl
  have hm := fun w => mixed f (e - tick) t (tick - b) w (by omega) (by omega) (by omega) (by omega) (by omega) (by omega) (by omega) (by omega) (by unfold hi64; omega)
  generalize f * (e - tick) + t * (tick - b) = S at hs hS hm
  have hq : quoF (hi64 S) (lo64 S) (e - b) = atF ⟨b, e, f, t, m⟩ tick := by
    unfold quoF
    rw [show hi64 S * 18446744073709551616 + lo64 S = S by unfold hi64 lo64; omega]
    exact hS
  have hd := fun w => div64 (hi64 S) (lo64 S) (e - b) w (hi64_nn hs.1) (by unfold hi64; omega) (by omega) (lo64_bd S).1 (lo64_bd S).2
  rw [hq] at hd
  have hb : 0 ≤ atF ⟨b, e, f, t, m⟩ tick ∧ atF ⟨b, e, f, t, m⟩ tick ≤ 60000000 := by
    rw [← hS]
    exact ⟨Int.ediv_nonneg hs.1 (by omega), Int.ediv_le_of_le_mul (by omega) (by omega)⟩
  clear hS hq hs
  generalize hQ : atF ⟨b, e, f, t, m⟩ tick = Q at *
  go_enter Try.func41, Try.ntmps41
  go_wp2_with fail
  refine (hm _).mono ?_
  rintro e w1 ⟨rfl, rfl⟩
  go_wp2_with fail
  refine (hd _).mono ?_
  rintro e w2 ⟨rfl, q, rfl⟩
  go_wp2_with fail
  go_ret
  exact ⟨ret_int (by first | rfl | exact hQ | omega), ((Up.refl w).alloc _).drawnN _⟩
end Go.Proofs.Ytgfbmdpjgcibjaa
