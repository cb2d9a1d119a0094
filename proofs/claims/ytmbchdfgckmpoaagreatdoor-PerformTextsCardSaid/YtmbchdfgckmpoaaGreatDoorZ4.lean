/- The model's decimal at every number but the least; integers read. -/
import Derived.Test.YtmbchdfgckmpoaaGreatDoorZ3
namespace Go.Proofs.YtmbchdfgckmpoaaGreatDoor
open Go.RowKit Go.Sort

theorem itoa_neg (n : Nat) (h : 1 ≤ n) : Lib.itoa (-(n : Int)) = 45 :: Lib.decDigits n := by
  unfold Lib.itoa
  rw [if_pos (by omega)]
  simp
theorem itoa_pos (n : Nat) : Lib.itoa (n : Int) = Lib.decDigits n := by
  unfold Lib.itoa
  rw [if_neg (by omega)]
  simp
set_option maxHeartbeats 1000000 in
theorem decimalZ (z : Int) (w : World) (h0 : -9223372036854775808 < z) (h1 : z ≤ 9223372036854775807) : Calls Tryz.prog 22 #[.int .i64 z] w fun e w' => e = .returned (.string (bs (Lib.itoa z))) ∧ Below w.heap.size w w' := by
  by_cases hz : 0 ≤ z
  · obtain ⟨n, rfl⟩ := Int.eq_ofNat_of_zero_le hz
    have h := decimalM n w (by omega)
    rw [itoa_pos]
    exact h
  · obtain ⟨n, hn⟩ := Int.eq_ofNat_of_zero_le (show 0 ≤ -z by omega)
    obtain rfl : z = -(n : Int) := by omega
    rw [itoa_neg n (by omega)]
    have hn2 : n < 9223372036854775808 := by omega
    have hc : ∀ w, Calls Tryz.prog 22 #[.int .i64 n] w fun e w' => e = .returned (.string (bs (Lib.decDigits n))) ∧ Below w.heap.size w w' := fun w => decimalM n w hn2
    have hl : (bs (Lib.decDigits n)).size ≤ 100 := by
      have h1 := Lib.nDigits_le20 n (by omega)
      have h2 := Lib.decDigits_length n
      rw [bs_size]; omega
    have e0 : decide (-(n : Int) < 0) = true := decide_eq_true (by omega)
    have e1 : (⟨#[45]⟩ : ByteArray) ++ bs (Lib.decDigits n) = bs (45 :: Lib.decDigits n) := bs_append [45] _
    rw [← e1]
    have z1 : (⟨#[45]⟩ : ByteArray).size = 1 := rfl
    have a1 := fun w => run_string_add (P := Tryz.prog) w ⟨#[45]⟩ (bs (Lib.decDigits n)) (by omega) (by omega)
    have hn3 : (0 : Int) < n := by omega
    have u1 : IntKind.i64.wrap (n : Int) = (n : Int) := IntWalk.i64_in _ (by omega)
    generalize (bs (Lib.decDigits n)) = S at *
    clear e1 hz hn
    go_enter Tryz.func22, Tryz.ntmps22
    go_wp2_with fail
    refine (hc _).mono ?_
    rintro e w1 ⟨rfl, hb1⟩
    go_wp2_with fail
    go_ret
    exact ⟨rfl, hb1⟩
end Go.Proofs.YtmbchdfgckmpoaaGreatDoor
