/- The model's micros and speed. -/
import Derived.Test.YtgfbmdpjgcibjaaG13
namespace Go.Proofs.Ytgfbmdpjgcibjaa
open Go.RowKit

set_option maxHeartbeats 2000000 in
theorem microsM (b off n c : Nat) (X : Nat → St) (tick : Int) (w : World) (hX : Okay X n) (hn : n ≤ 1000) (h : RdS w b off n (timedAt X)) (h0t : 0 ≤ tick) (h1t : tick ≤ (X (n - 1)).e) :
    Calls Try.prog 23 #[.slice (some ⟨b, off, none⟩) n c, .int .i64 tick] w fun r w' => r = .returned (.int .i64 (microsAt X n tick)) ∧ Up w w' := by
  have hF := findM b off n c X tick w hX hn h h0t h1t
  obtain ⟨_, k1, k2, k3, _⟩ := kF_spec hX h0t h1t
  have hI := hX.inS (kF X n tick) k1 k2 k3
  have hr := h _ k1
  obtain ⟨i0, i1, i2, i3, i4, i5, i6, i7, i8, i9, i10⟩ := hI
  unfold microsAt untilF
  generalize timedAt X (kF X n tick) = s at *
  generalize kF X n tick = K at *
  obtain ⟨r0, r1, r2, r3, r4⟩ := hr
  clear h k2 k3
  obtain ⟨j0, j1⟩ := intF_bd (fr := s.f) (tp := s.t) (L := s.e - s.b) (k := tick - s.b) (by omega) (by omega) (by omega) (by omega) (by omega) (by omega) (by omega)
  go_enter Try.func23, Try.ntmps23
  go_wp2_with fail
  refine hF.mono ?_
  rintro e w1 ⟨rfl, rfl⟩
  go_wp2_with fail
  go_quiet ((go_at_call 19; exact Calls.quiet_of (integralL s.f s.t (s.e - s.b) (tick - s.b) _ i3 i4 i5 i6 (by omega) (by omega) (by omega) (by omega))))
  go_wp2_with fail
  go_ret
  exact ⟨ret_int (by first | rfl | omega), ((Up.refl _).alloc _).drawnN _⟩

set_option maxHeartbeats 2000000 in
theorem speedM (b off n c : Nat) (X : Nat → St) (tick : Int) (w : World) (hX : Okay X n) (hn : n ≤ 1000) (h : RdS w b off n (timedAt X)) (h0t : 0 ≤ tick) (h1t : tick ≤ (X (n - 1)).e) :
    Calls Try.prog 24 #[.slice (some ⟨b, off, none⟩) n c, .int .i64 tick] w fun r w' => r = .returned (.int .i64 (speedAt X n tick)) ∧ Up w w' := by
  have hF := findM b off n c X tick w hX hn h h0t h1t
  obtain ⟨_, k1, k2, k3, _⟩ := kF_spec hX h0t h1t
  have hI := hX.inS (kF X n tick) k1 k2 k3
  have hr := h _ k1
  obtain ⟨i0, i1, i2, i3, i4, i5, i6, i7, i8, i9, i10⟩ := hI
  unfold speedAt atF
  generalize timedAt X (kF X n tick) = s at *
  generalize kF X n tick = K at *
  obtain ⟨r0, r1, r2, r3, r4⟩ := hr
  clear h k2 k3
  have hl : Calls Try.prog 43 #[.int .i64 s.f, .int .i64 s.t, .int .i64 (s.e - s.b), .int .i64 (tick - s.b)] (w.alloc (Obj.cells #[.int .i64 s.b, .int .i64 s.e, .int .i64 s.f, .int .i64 s.t, .int .i64 s.m] 38)) fun r w' => r = .returned (.int .i64 ((s.f * (s.e - tick) + s.t * (tick - s.b)) / (s.e - s.b))) ∧ ∃ m, w' = (w.alloc (Obj.cells #[.int .i64 s.b, .int .i64 s.e, .int .i64 s.f, .int .i64 s.t, .int .i64 s.m] 38)).drewN m := by
    have ee : s.e - tick = (s.e - s.b) - (tick - s.b) := by omega
    rw [ee]
    by_cases hft : s.f ≤ s.t
    · exact lineUp _ _ _ _ _ i3 i6 hft (by omega) (by omega) (by omega) (by omega)
    · exact lineDown _ _ _ _ _ i4 i5 (by omega) (by omega) (by omega) (by omega) (by omega)
  go_enter Try.func24, Try.ntmps24
  go_wp2_with fail
  refine hF.mono ?_
  rintro e w1 ⟨rfl, rfl⟩
  go_wp2_with fail
  refine hl.mono ?_
  rintro e w2 ⟨rfl, q, rfl⟩
  go_wp2_with fail
  go_ret
  exact ⟨rfl, ((Up.refl _).alloc _).drawnN _⟩
end Go.Proofs.Ytgfbmdpjgcibjaa
