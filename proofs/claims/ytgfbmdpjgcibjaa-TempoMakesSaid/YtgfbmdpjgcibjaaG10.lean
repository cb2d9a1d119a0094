/- The model's find. -/
import Derived.Test.YtgfbmdpjgcibjaaG9
namespace Go.Proofs.Ytgfbmdpjgcibjaa
open Go.RowKit

/-- What the model's find holds before its k-th round. -/
def upTo (K k : Nat) : Nat := if k ≤ K then k - 1 else K

set_option maxHeartbeats 2000000 in
theorem findM (b off n c : Nat) (X : Nat → St) (tick : Int) (w : World) (hX : Okay X n) (hn : n ≤ 1000) (h : RdS w b off n (timedAt X)) (h0t : 0 ≤ tick) (h1t : tick ≤ (X (n - 1)).e) :
    Calls Try.prog 42 #[.slice (some ⟨b, off, none⟩) n c, .int .i64 tick] w fun r w' => r = .returned (.int .i64 (kF X n tick : Nat)) ∧ w = w' := by
  obtain ⟨hc, hK, k2, k3, _⟩ := kF_spec hX h0t h1t
  obtain ⟨c1, c2, _⟩ := cnt_spec (fun i => decide (tick < (X i).b)) n (hX.mono tick)
  rw [hc] at c1 c2
  generalize hKe : kF X n tick = K at *
  go_enter Try.func42, Try.ntmps42
  go_wp2_with fail
  go_loopw [5, 6] (fun o i wr => ∃ k : Nat, k ≤ n ∧ i = .int .i64 k ∧ o = .int .i64 (upTo K k : Nat) ∧ w = wr) (fun _ i _ => n - (intOf i).toNat)
  case atStart => exact ⟨0, by omega, rfl, by simp [upTo], rfl⟩
  case round =>
    obtain ⟨k, hk, rfl, rfl, rfl⟩ := hrel
    by_cases hlt : k < n
    · obtain ⟨r0, r1, r2, r3, r4⟩ := h k hlt
      have eb : (timedAt X k).b = (X k).b := rfl
      rw [eb] at r0
      by_cases hle : k ≤ K
      · have d : (X k).b ≤ tick := by have := of_decide_eq_false (c1 k (by omega)); omega
        go_wp2_with fail
        go_roundw
        case rel => exact ⟨k + 1, by omega, by go_num, by unfold upTo; congr 1; split <;> omega, by trivial⟩
        case measure => simp [intOf]; omega
      · have d : tick < (X k).b := of_decide_eq_true (c2 k (by omega) hlt)
        go_wp2_with fail
        go_roundw
        case rel => exact ⟨k + 1, by omega, by go_num, by unfold upTo; rw [if_neg hle, if_neg (by omega)], by trivial⟩
        case measure => simp [intOf]; omega
    · obtain rfl : k = n := by omega
      go_wp2_with fail
      go_ret
      have eK : upTo K k = K := by unfold upTo; rw [if_neg (by omega)]
      exact ⟨by show Ending.returned (.int .i64 (upTo K k : Nat)) = _; rw [eK], by trivial⟩
end Go.Proofs.Ytgfbmdpjgcibjaa
