/- Map.At, the model's find. -/
import Derived.Test.YtgfbmdpjgcibjaaG8
namespace Go.Proofs.Ytgfbmdpjgcibjaa
open Go.RowKit

def speedAt (X : Nat → St) (n : Nat) (tick : Int) : Int := atF (timedAt X (kF X n tick)) tick

set_option maxHeartbeats 1000000 in
theorem atGood (p n : Nat) (X : Nat → St) (tick : Int) (w : World) (hX : Okay X n) (hn : n ≤ 1000) (hM : MapRd w p n (timedAt X)) (h0t : 0 ≤ tick) (h1t : tick ≤ (X (n - 1)).e) :
    Calls Try.prog 22 #[.pointer (some ⟨p, 0, none⟩), .int .i64 tick] w fun r w' => r = .returned (.tuple #[.int .i64 (speedAt X n tick), .int .i64 0]) ∧ Up w w' := by
  have hF := findGood p n X tick w hX hn hM h0t h1t
  obtain ⟨_, k1, k2, k3, _⟩ := kF_spec hX h0t h1t
  have hI := hX.inS (kF X n tick) k1 k2 k3
  simp only [stv, stV] at hF
  clear hM k2 k3
  unfold speedAt
  go_enter Try.func22, Try.ntmps22
  go_wp2_with fail
  refine hF.mono ?_
  rintro e w1 ⟨rfl, hu⟩
  go_wp2_with fail
  refine (atC _ _ _ _ _ _ _ hI).mono ?_
  rintro e w2 ⟨rfl, hu2⟩
  go_wp2_with fail
  go_ret2
  exact ⟨rfl, (hu.alloc _).trans hu2⟩

set_option maxHeartbeats 1000000 in
theorem atBad (p n : Nat) (X : Nat → St) (tick : Int) (w : World) (hX : Okay X n) (hn : n ≤ 1000) (hM : MapRd w p n (timedAt X)) (h : tick < 0 ∨ (X (n - 1)).e < tick) :
    Calls Try.prog 22 #[.pointer (some ⟨p, 0, none⟩), .int .i64 tick] w fun r w' => r = .returned (.tuple #[.int .i64 0, .int .i64 2]) ∧ Up w w' := by
  have hF := findBad p n X tick w hX hn hM h
  simp only [stV] at hF
  clear hM h
  go_enter Try.func22, Try.ntmps22
  go_wp2_with fail
  refine hF.mono ?_
  rintro e w1 ⟨rfl, hu⟩
  go_wp2_with fail
  go_ret2
  exact ⟨rfl, hu.alloc _⟩
end Go.Proofs.Ytgfbmdpjgcibjaa
