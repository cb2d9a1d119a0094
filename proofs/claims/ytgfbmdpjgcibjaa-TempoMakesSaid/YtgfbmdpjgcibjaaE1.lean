/- math/bits: Div64. -/
import Derived.Test.YtgfbmdpjgcibjaaM2
import Derived.Test.YtgfbmdpjgcibjaaShelf
import Derived.WalkKit
import Derived.WalkSpells
import Derived.WalkLawsBesides
import Derived.Handy
import Derived.Lib.Hide
import Derived.Deep.DeepCutAuto
import Derived.Deep.CutBlock
namespace Go.Proofs.Ytgfbmdpjgcibjaa
open Go.RowKit

theorem mul_bd {a b x y : Int} (h1 : 0 ≤ a) (h2 : a ≤ x) (h3 : 0 ≤ b) (h4 : b ≤ y) : 0 ≤ a * b ∧ a * b ≤ x * y :=
  ⟨Int.mul_nonneg h1 h3, Int.mul_le_mul h2 h4 h3 (by omega)⟩

set_option maxRecDepth 100000 in
set_option maxHeartbeats 2000000 in
theorem div64_big (hi lo y : Int) (w : World) (h0 : 1 ≤ hi) (h1 : hi < y) (h2 : y ≤ 18446744073709551615) (l0 : 0 ≤ lo) (l1 : lo ≤ 18446744073709551615) :
    Calls Try.prog 38 #[.int .u64 hi, .int .u64 lo, .int .u64 y] w fun e w' => e = .returned (.tuple #[.int .u64 ((hi * 18446744073709551616 + lo) / y), .int .u64 ((hi * 18446744073709551616 + lo) % y)]) ∧ w = w' := by
  obtain ⟨s, es, s63, y63, y64⟩ := lz y (by omega) h2
  obtain ⟨v1, v2, v3⟩ := shifted hi lo s s63 l0 (by omega)
  have p0 : (0 : Int) < 2 ^ s := Int.pow_pos (by omega)
  have hu : hi * 2 ^ s + lo / 2 ^ (64 - s) < y * 2 ^ s := by
    have := Int.mul_le_mul_of_nonneg_right (show hi + 1 ≤ y by omega) (Int.le_of_lt p0)
    rw [Int.add_mul, Int.one_mul] at this
    omega
  have hu0 : 0 ≤ hi * 2 ^ s := Int.mul_nonneg (by omega) (by omega)
  have w1 : IntKind.u64.wrap (hi * 2 ^ s) = hi * 2 ^ s := IntWalk.u64_in _ (by omega)
  have w2 : bits .or .u64 (hi * 2 ^ s) (lo / 2 ^ (64 - s)) = hi * 2 ^ s + lo / 2 ^ (64 - s) := or_add hi _ s (by omega) v1 v2 (by omega)
  have w3 : IntKind.u64.wrap (lo * 2 ^ s) = lo * 2 ^ s % 18446744073709551616 := by rw [IntKind.wrap_u64]
  generalize hU : hi * 2 ^ s + lo / 2 ^ (64 - s) = U at *
  generalize hL : lo * 2 ^ s % 18446744073709551616 = L at *
  have L0 : 0 ≤ L := by omega
  have L1 : L ≤ 18446744073709551615 := by omega
  have U0 : 0 ≤ U := by omega
  generalize hY : y * 2 ^ s = Y at *
  have m1 : bits .and .u64 Y 4294967295 = Y % 4294967296 := mask32 Y (by omega) (by omega)
  have m2 : bits .and .u64 L 4294967295 = L % 4294967296 := mask32 L (by omega) (by omega)
  obtain ⟨est, est2⟩ := est_first (u := U) (d := L / 4294967296) (y1 := Y / 4294967296) (y0 := Y % 4294967296) U0 (by omega) (by omega) (by omega) (by omega) (by omega) (by omega) (by omega)
  have hYY : Y / 4294967296 * 4294967296 + Y % 4294967296 = Y := by omega
  have t1 : 0 ≤ U / (Y / 4294967296) * (Y / 4294967296) ∧ U / (Y / 4294967296) * (Y / 4294967296) ≤ U := by have := est.r0; have := est.rq; have := Int.mul_nonneg (Int.ediv_nonneg U0 (show 0 ≤ Y / 4294967296 by omega)) (show 0 ≤ Y / 4294967296 by omega); omega
  have t2 : 0 ≤ U / (Y / 4294967296) := Int.ediv_nonneg U0 (by omega)
  have t3 : U / (Y / 4294967296) ≤ 4294967297 := est.qhi
  generalize hy1 : Y / 4294967296 = y1 at *
  generalize hy0 : Y % 4294967296 = y0 at *
  generalize hd1 : L / 4294967296 = d1 at *
  generalize hd0 : L % 4294967296 = d0 at *
  have by1 : 2147483648 ≤ y1 ∧ y1 ≤ 4294967295 := by omega
  have by0 : 0 ≤ y0 ∧ y0 ≤ 4294967295 := by omega
  have bd1 : 0 ≤ d1 ∧ d1 ≤ 4294967295 := by omega
  have bd0 : 0 ≤ d0 ∧ d0 ≤ 4294967295 := by omega
  have ES := Lib.hid es
  have EST := Lib.hid est
  have EST2 := Lib.hid est2
  have HYY := Lib.hid hYY
  have V3 := Lib.hid v3
  have HY := Lib.hid hY.symm
  clear es est est2 hYY v3 v1 v2 hu0
  have e1 : (y == 0) = false := beq_eq_false_iff_ne.2 (by omega)
  have e2 : decide (y ≤ hi) = false := decide_eq_false (by omega)
  have e3 : (hi == 0) = false := beq_eq_false_iff_ne.2 (by omega)
  go_enter Try.func38, Try.ntmps38
  go_wp2_with fail
  refine (Try.bits_LeadingZeros64 _ _ (by omega) h2).mono ?_; rintro e w1 ⟨rfl, rfl⟩
  rw [ES.out]
  go_upto_block 0 with (fail)
  go_cut [15] (fun q wc => q = .int .u64 ((U * 4294967296 + d1) / (y1 * 4294967296 + y0)) ∧ w1 = wc)
  case first =>
    go_wp2_with fail
    go_loop [15, 16] (fun q r => ∃ q' r' : Int, q = .int .u64 q' ∧ r = .int .u64 r' ∧ Hid (Est U d1 y1 y0 q' r') ∧ 0 ≤ r' ∧ r' ≤ 4294967295 ∧ 0 ≤ q' ∧ q' ≤ 4294967297) (fun q _ => (intOf q).toNat)
    case atStart => exact ⟨_, _, rfl, rfl, EST, by have := EST.out.r0; omega, by have := EST2.out; omega, by omega, by omega⟩
    case round =>
      obtain ⟨q, r, rfl, rfl, hE, r0, r1, q0, q1⟩ := hrel
      have key : (q < 4294967296 ∧ q * y0 ≤ 4294967296 * r + d1) ∨ ((4294967296 ≤ q ∨ r * 4294967296 + d1 < q * y0) ∧ (4294967296 ≤ q ∨ (q < 4294967296 ∧ 4294967296 * r + d1 < q * y0))) := by omega
      rcases key with ⟨k1, k2⟩ | ⟨k1, k2⟩
      · have pm := mul_bd (a := q) (b := y0) (x := 4294967295) (y := 4294967295) q0 (by omega) by0.1 by0.2
        have hq := Lib.hid (hE.out.eq_of_not (by omega))
        have g1 : decide (4294967296 ≤ q) = false := decide_eq_false (by omega)
        have g2 : decide (4294967296 * r + d1 < q * y0) = false := decide_eq_false (by omega)
        go_wp2_with fail
        go_meet
        exact ⟨by rw [hq.out], rfl⟩
      · have hE2 := Lib.hid (hE.out.down k1)
        have hQ0 := hE.out.Q
        have hgt := hE.out.gt k1
        have qp : 0 ≤ q - 1 := by omega
        clear hQ0 hgt k1
        by_cases hb : r + y1 < 4294967296
        · rcases k2 with k2 | ⟨k2, k3⟩
          · go_wp2_with fail
            go_round
            case rel => exact ⟨q - 1, r + y1, rfl, rfl, hE2, by omega, by omega, by omega, by omega⟩
            case measure => simp [intOf]; omega
          · have pm := mul_bd (a := q) (b := y0) (x := 4294967295) (y := 4294967295) q0 (by omega) by0.1 by0.2
            have g1 : decide (4294967296 ≤ q) = false := decide_eq_false (by omega)
            have g2 : decide (4294967296 * r + d1 < q * y0) = true := decide_eq_true (by omega)
            go_wp2_with fail
            go_round
            case rel => exact ⟨q - 1, r + y1, rfl, rfl, hE2, by omega, by omega, by omega, by omega⟩
            case measure => simp [intOf]; omega
        · have hq := Lib.hid (hE2.out.eq_of_big (by omega) (by omega))
          rcases k2 with k2 | ⟨k2, k3⟩
          · go_wp2_with fail
            go_meet
            exact ⟨by rw [hq.out], rfl⟩
          · have pm := mul_bd (a := q) (b := y0) (x := 4294967295) (y := 4294967295) q0 (by omega) by0.1 by0.2
            have g1 : decide (4294967296 ≤ q) = false := decide_eq_false (by omega)
            have g2 : decide (4294967296 * r + d1 < q * y0) = true := decide_eq_true (by omega)
            go_wp2_with fail
            go_meet
            exact ⟨by rw [hq.out], rfl⟩
  case rest =>
    obtain ⟨rfl, rfl⟩ := hcut
    have hQ := EST.out.Q
    have hYp : 0 < Y := by omega
    obtain ⟨Q1, hQ1⟩ : ∃ Q1, (U * 4294967296 + d1) / (y1 * 4294967296 + y0) = Q1 := ⟨_, rfl⟩
    have f1 := Int.emod_add_mul_ediv (U * 4294967296 + d1) Y
    have f2 := Int.emod_nonneg (U * 4294967296 + d1) (show Y ≠ 0 by omega)
    have f3 := Int.emod_lt_of_pos (U * 4294967296 + d1) hYp
    rw [← HYY.out, hQ1] at f1
    rw [HYY.out, Int.mul_comm Y] at f1
    rw [hQ1] at hQ ⊢
    obtain ⟨R, hR⟩ : ∃ R, U * 4294967296 + d1 - Q1 * Y = R := ⟨_, rfl⟩
    have hR0 : 0 ≤ R := by omega
    have hR1 : R < Y := by omega
    have n1 : 0 ≤ Q1 * Y := Int.mul_nonneg hQ.1 (by omega)
    have e5 : IntKind.u64.wrap (IntKind.u64.wrap (IntKind.u64.wrap (U * 4294967296) + d1) - IntKind.u64.wrap (Q1 * Y)) = R := by
      simp only [IntKind.wrap_u64]; omega
    obtain ⟨est', est2'⟩ := est_first (u := R) (d := d0) (y1 := y1) (y0 := y0) hR0 (by rw [HYY.out]; exact hR1) bd0.1 (by omega) (by omega) (by omega) (by omega) (by omega)
    have t1' : 0 ≤ R / y1 * y1 ∧ R / y1 * y1 ≤ R := by have := est'.r0; have := est'.rq; have := Int.mul_nonneg (Int.ediv_nonneg hR0 (show 0 ≤ y1 by omega)) (show 0 ≤ y1 by omega); omega
    have t2' : 0 ≤ R / y1 := Int.ediv_nonneg hR0 (by omega)
    have t3' : R / y1 ≤ 4294967297 := est'.qhi
    have EST' := Lib.hid est'
    have EST2' := Lib.hid est2'
    have HR := Lib.hid hR
    clear f1 f2 f3 hR est' est2' hQ1
    go_upto_block 2 with (fail)
    go_cut [18] (fun q wc => q = .int .u64 ((R * 4294967296 + d0) / (y1 * 4294967296 + y0)) ∧ w1 = wc)
    case first =>
      go_wp2_with fail
      go_loop [18, 16] (fun q r => ∃ q' r' : Int, q = .int .u64 q' ∧ r = .int .u64 r' ∧ Hid (Est R d0 y1 y0 q' r') ∧ 0 ≤ r' ∧ r' ≤ 4294967295 ∧ 0 ≤ q' ∧ q' ≤ 4294967297) (fun q _ => (intOf q).toNat)
      case atStart => exact ⟨_, _, rfl, rfl, EST', by have := EST'.out.r0; omega, by have := EST2'.out; omega, by omega, by omega⟩
      case round =>
        obtain ⟨q, r, rfl, rfl, hE, r0, r1, q0, q1⟩ := hrel
        have key : (q < 4294967296 ∧ q * y0 ≤ 4294967296 * r + d0) ∨ ((4294967296 ≤ q ∨ r * 4294967296 + d0 < q * y0) ∧ (4294967296 ≤ q ∨ (q < 4294967296 ∧ 4294967296 * r + d0 < q * y0))) := by omega
        rcases key with ⟨k1, k2⟩ | ⟨k1, k2⟩
        · have pm := mul_bd (a := q) (b := y0) (x := 4294967295) (y := 4294967295) q0 (by omega) by0.1 by0.2
          have hq := Lib.hid (hE.out.eq_of_not (by omega))
          have g1 : decide (4294967296 ≤ q) = false := decide_eq_false (by omega)
          have g2 : decide (4294967296 * r + d0 < q * y0) = false := decide_eq_false (by omega)
          go_wp2_with fail
          go_meet
          exact ⟨by rw [hq.out], rfl⟩
        · have hE2 := Lib.hid (hE.out.down k1)
          have hQ0 := hE.out.Q
          have hgt := hE.out.gt k1
          have qp : 0 ≤ q - 1 := by omega
          clear hQ0 hgt k1
          by_cases hb : r + y1 < 4294967296
          · rcases k2 with k2 | ⟨k2, k3⟩
            · go_wp2_with fail
              go_round
              case rel => exact ⟨q - 1, r + y1, rfl, rfl, hE2, by omega, by omega, by omega, by omega⟩
              case measure => simp [intOf]; omega
            · have pm := mul_bd (a := q) (b := y0) (x := 4294967295) (y := 4294967295) q0 (by omega) by0.1 by0.2
              have g1 : decide (4294967296 ≤ q) = false := decide_eq_false (by omega)
              have g2 : decide (4294967296 * r + d0 < q * y0) = true := decide_eq_true (by omega)
              go_wp2_with fail
              go_round
              case rel => exact ⟨q - 1, r + y1, rfl, rfl, hE2, by omega, by omega, by omega, by omega⟩
              case measure => simp [intOf]; omega
          · have hq := Lib.hid (hE2.out.eq_of_big (by omega) (by omega))
            rcases k2 with k2 | ⟨k2, k3⟩
            · go_wp2_with fail
              go_meet
              exact ⟨by rw [hq.out], rfl⟩
            · have pm := mul_bd (a := q) (b := y0) (x := 4294967295) (y := 4294967295) q0 (by omega) by0.1 by0.2
              have g1 : decide (4294967296 ≤ q) = false := decide_eq_false (by omega)
              have g2 : decide (4294967296 * r + d0 < q * y0) = true := decide_eq_true (by omega)
              go_wp2_with fail
              go_meet
              exact ⟨by rw [hq.out], rfl⟩
    case rest =>
      obtain ⟨rfl, rfl⟩ := hcut
      have hQ' := EST'.out.Q
      obtain ⟨Q0, hQ0⟩ : ∃ Q0, (R * 4294967296 + d0) / (y1 * 4294967296 + y0) = Q0 := ⟨_, rfl⟩
      have f1 := Int.emod_add_mul_ediv (R * 4294967296 + d0) Y
      have f2 := Int.emod_nonneg (R * 4294967296 + d0) (show Y ≠ 0 by omega)
      have f3 := Int.emod_lt_of_pos (R * 4294967296 + d0) hYp
      rw [← HYY.out, hQ0] at f1
      rw [HYY.out, Int.mul_comm Y] at f1
      rw [hQ0] at hQ' ⊢
      have n2 : 0 ≤ Q0 * Y := Int.mul_nonneg hQ'.1 (by omega)
      obtain ⟨R0, hR0'⟩ : ∃ R0, R * 4294967296 + d0 - Q0 * Y = R0 := ⟨_, rfl⟩
      have e6 : IntKind.u64.wrap (IntKind.u64.wrap (IntKind.u64.wrap (R * 4294967296) + d0) - IntKind.u64.wrap (Q0 * Y)) = R0 := by
        simp only [IntKind.wrap_u64]; omega
      have r0 : 0 ≤ R0 := by omega
      have r1 : R0 < Y := by omega
      have D := digits (N := hi * 18446744073709551616 + lo) (y := y) (p := 2 ^ s) (U := U) (L := L) (Y := Y) (q1 := Q1) (q0 := Q0) p0 V3.out HY.out (by omega) (by rw [hd1, hd0, HR.out, hR0']; exact r0) (by rw [hd1, hd0, HR.out, hR0']; exact r1)
      rw [hd1, hd0, HR.out, hR0'] at D
      have D := Lib.hid D
      clear f1 f2 f3 hR0' hQ0
      go_wp2_with fail
      go_ret2
      exact ⟨by rw [← D.out.1, ← D.out.2]; rfl, rfl⟩
end Go.Proofs.Ytgfbmdpjgcibjaa
