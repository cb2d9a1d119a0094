/- same and cut. -/
import Derived.Test.YteoghladllohjaaGreatDoorM2
namespace Go.Proofs.YteoghladllohjaaGreatDoor
open Go.RowKit Go.Sort

set_option maxHeartbeats 2000000 in
theorem sameC (A B : Option Addr) (c d : Nat) (l : List Tone) (w : World) (hl : l.length ≤ 1000) (hA : SlT w A l) (hB : SlT w B l) :
    Calls Tryz.prog 9 #[.slice A l.length c, .slice B l.length d] w fun r w' => r = .returned (.bool true) ∧ Below w.heap.size w w' := by
  generalize hn : l.length = n at *
  go_enter Tryz.func9, Tryz.ntmps9
  go_wp2_with fail
  go_loopw [5] (fun i wr => ∃ k : Nat, k ≤ n ∧ i = .int .i64 k ∧ Below w.heap.size w wr) (fun i _ => n - (intOf i).toNat)
  case atStart => exact ⟨0, by omega, rfl, Below.refl _ _⟩
  case round =>
    obtain ⟨k, hk, rfl, hb⟩ := hrel
    by_cases hlt : k < n
    · obtain ⟨b1, o1, hA1, hl1, hr1⟩ := hA.some (k := k) (by rw [hn]; exact hlt)
      obtain ⟨b2, o2, hB1, hl2, hr2⟩ := hB.some (k := k) (by rw [hn]; exact hlt)
      cases hA1
      cases hB1
      have hkl : k < l.length := by rw [hn]; exact hlt
      obtain ⟨r0, r1, r2, r3, r4⟩ := hr1.below hb hl1 k hkl
      obtain ⟨s0, s1, s2, s3, s4⟩ := hr2.below hb hl2 k hkl
      clear hr1 hr2 hA hB
      generalize nth l k = x at *
      go_wp2_with fail
      go_region
      go_wp2_with fail
      go_roundw
      case rel => exact ⟨k + 1, by omega, by go_num, hb.drew⟩
      case measure => simp [intOf]; omega
    · obtain rfl : k = n := by omega
      go_wp2_with fail
      go_ret
      exact ⟨rfl, hb⟩

theorem cutC (A : Option Addr) (n c : Nat) (w : World) (hnc : n ≤ c) (hc : c ≤ 9223372036854775807) (hA : A = none → c = 0) :
    Calls Tryz.prog 4 #[.slice A n c] w fun r w' => r = .returned (.slice A (min n 70) c) ∧ w' = w := by
  by_cases h : n ≤ 70
  · have e1 : min (n : Int) 70 = n := by omega
    have e2 : (if (70 : Int) < n then (70 : Int) else n) = n := by rw [if_neg (by omega)]
    rw [Nat.min_eq_left h]
    cases A with
    | none =>
      obtain rfl := hA rfl
      obtain rfl : n = 0 := by omega
      go_enter Tryz.func4, Tryz.ntmps4
      go_wp2_with fail
      go_ret
      exact ⟨rfl, rfl⟩
    | some a =>
      go_enter Tryz.func4, Tryz.ntmps4
      go_wp2_with fail
      go_ret
      exact ⟨rfl, rfl⟩
  · have e1 : min (n : Int) 70 = 70 := by omega
    have e2 : (if (70 : Int) < n then (70 : Int) else n) = 70 := by rw [if_pos (by omega)]
    rw [Nat.min_eq_right (by omega)]
    cases A with
    | none =>
      have := hA rfl
      omega
    | some a =>
      go_enter Tryz.func4, Tryz.ntmps4
      go_wp2_with fail
      go_ret
      exact ⟨rfl, rfl⟩
end Go.Proofs.YteoghladllohjaaGreatDoor
