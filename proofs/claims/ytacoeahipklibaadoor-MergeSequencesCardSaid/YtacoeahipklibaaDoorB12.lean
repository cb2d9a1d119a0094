/- The law's equal, at two slices of the same ids. -/
import Derived.Test.YtacoeahipklibaaDoorB5
namespace Go.Proofs.YtacoeahipklibaaDoor
open Go.RowKit

set_option maxHeartbeats 2000000 in
theorem equalI (A B : Option Addr) (c d : Nat) (l : List Id) (w : World) (hl : l.length ≤ 1000) (hA : SlI w A l) (hB : SlI w B l) :
    Calls Tryd.prog 8 #[.slice A l.length c, .slice B l.length d] w fun r w' => r = .returned (.bool true) ∧ Below w.heap.size w w' := by
  generalize hn : l.length = n at *
  go_enter Tryd.func8, Tryd.ntmps8
  go_wp2_with fail
  go_loopw [5] (fun i wr => ∃ k : Nat, k ≤ n ∧ i = .int .i64 k ∧ Below w.heap.size w wr) (fun i _ => n - (intOf i).toNat)
  case atStart => exact ⟨0, by omega, rfl, Below.refl _ _⟩
  case round =>
    obtain ⟨k, hk, rfl, hb⟩ := hrel
    by_cases hlt : k < n
    · obtain ⟨b1, o1, hA1, hl1, hr1⟩ := hA.some (k := k) (by rw [hn]; exact hlt)
      obtain ⟨b2, o2, hA2, hl2, hr2⟩ := hB.some (k := k) (by rw [hn]; exact hlt)
      cases hA1
      cases hA2
      have hkl : k < l.length := by rw [hn]; exact hlt
      obtain ⟨r0, r1⟩ := hr1.below hb hl1 k hkl
      obtain ⟨s0, s1⟩ := hr2.below hb hl2 k hkl
      clear hr1 hr2 hA hB
      generalize ith l k = x at *
      go_wp2_with fail
      go_region
      go_wp2_with fail
      go_roundw
      case rel => exact ⟨k + 1, by omega, by go_num, hb.drew⟩
      case measure => simp [intOf]; omega
    · obtain rfl : k = n := by omega
      go_wp2_with fail
      go_ret
      exact ⟨rfl, hb⟩
end Go.Proofs.YtacoeahipklibaaDoor
