/- math/bits by name: Mul64, Add64, Sub64, Div64 over Int; mixed and the integral. -/
import Derived.Test.YtgfbmdpjgcibjaaE1
import Derived.Deep.QuietTactic
import Derived.BigQuiet
import Derived.Shelf.Spec.BitsCarry
namespace Go.Proofs.Ytgfbmdpjgcibjaa
open Go.RowKit

theorem ret_int {k : IntKind} {a b : Int} (h : a = b) : Ending.returned (.int k a) = .returned (.int k b) := by rw [h]
theorem ret_bool {a b : Bool} (h : a = b) : Ending.returned (.bool a) = .returned (.bool b) := by rw [h]
theorem ret_2 {k l : IntKind} {a b c d : Int} (h : a = b) (g : c = d) : Ending.returned (.tuple #[.int k a, .int l c]) = .returned (.tuple #[.int k b, .int l d]) := by rw [h, g]

/-- The high and the low word of a number. -/
def hi64 (x : Int) : Int := x / 18446744073709551616
def lo64 (x : Int) : Int := x % 18446744073709551616
def maxU : Int := 18446744073709551615
def quoF (hi lo y : Int) : Int := (hi * 18446744073709551616 + lo) / y
def remF (hi lo y : Int) : Int := (hi * 18446744073709551616 + lo) % y
theorem lo64_bd (x : Int) : 0 ≤ lo64 x ∧ lo64 x ≤ 18446744073709551615 := by unfold lo64; omega
theorem hi64_nn {x : Int} (h : 0 ≤ x) : 0 ≤ hi64 x := by unfold hi64; omega

theorem mul64 (x y : Int) (hx : 0 ≤ x) (hx2 : x ≤ 18446744073709551615) (hy : 0 ≤ y) (hy2 : y ≤ 18446744073709551615) (w : World) :
    Calls Try.prog 35 #[.int .u64 x, .int .u64 y] w fun e w' => e = .returned (.tuple #[.int .u64 (hi64 (x * y)), .int .u64 (lo64 (x * y))]) ∧ w = w' := by
  obtain ⟨x, rfl⟩ := Int.eq_ofNat_of_zero_le hx
  obtain ⟨y, rfl⟩ := Int.eq_ofNat_of_zero_le hy
  refine (Try.bits_Mul64 x y (by omega) (by omega) w).mono ?_
  rintro e w' ⟨rfl, rfl⟩
  refine ⟨?_, rfl⟩
  unfold hi64 lo64
  have e1 : ((x : Int) * (y : Int)) = ((x * y : Nat) : Int) := by simp
  rw [e1]
  congr 4

theorem add64 (x y c : Int) (hx : 0 ≤ x) (hy : 0 ≤ y) (hc0 : 0 ≤ c) (hc : c ≤ 1) (w : World) : (callFunc 36 #[.int .u64 x, .int .u64 y, .int .u64 c]).run Try.prog w =
    .ok (.value (.tuple #[.int .u64 (lo64 (x + y + c)), .int .u64 (hi64 (x + y + c))])) w := by
  obtain ⟨x, rfl⟩ := Int.eq_ofNat_of_zero_le hx
  obtain ⟨y, rfl⟩ := Int.eq_ofNat_of_zero_le hy
  obtain ⟨c, rfl⟩ := Int.eq_ofNat_of_zero_le hc0
  rw [run_callFunc_extern Try.func36 (by kernel_rfl) (by kernel_rfl) (by kernel_rfl) (e := add64Entry) (by kernel_rfl), run_add64 x y c (by omega) (by omega) (by omega) (by omega)]
  simp only [Result.andThen]
  unfold hi64 lo64
  congr 5 <;> omega

theorem add64_0 (x y : Int) (hx : 0 ≤ x) (hy : 0 ≤ y) (w : World) : (callFunc 36 #[.int .u64 x, .int .u64 y, .int .u64 0]).run Try.prog w =
    .ok (.value (.tuple #[.int .u64 (lo64 (x + y)), .int .u64 (hi64 (x + y))])) w := by
  simpa using add64 x y 0 hx hy (Int.le_refl 0) (by decide) w

def borF (x y : Int) : Int := if x < y then 1 else 0
theorem sub64 (x y b : Int) (hx : 0 ≤ x) (hy : 0 ≤ y) (hy2 : y ≤ 18446744073709551615) (hb0 : 0 ≤ b) (hb : b ≤ 1) (w : World) : (callFunc 37 #[.int .u64 x, .int .u64 y, .int .u64 b]).run Try.prog w =
    .ok (.value (.tuple #[.int .u64 (lo64 (x - y - b)), .int .u64 (borF x (y + b))])) w := by
  obtain ⟨x, rfl⟩ := Int.eq_ofNat_of_zero_le hx
  obtain ⟨y, rfl⟩ := Int.eq_ofNat_of_zero_le hy
  obtain ⟨b, rfl⟩ := Int.eq_ofNat_of_zero_le hb0
  rw [run_callFunc_extern Try.func37 (by kernel_rfl) (by kernel_rfl) (by kernel_rfl) (e := sub64Entry) (by kernel_rfl), run_sub64 x y b (by omega)]
  simp only [Result.andThen]
  have e1 : (((x + 18446744073709551616 - y - b) % 18446744073709551616 : Nat) : Int) = lo64 ((x : Int) - y - b) := by unfold lo64; omega
  have e2 : ((if x < y + b then 1 else 0 : Nat) : Int) = borF (x : Int) ((y : Int) + b) := by unfold borF; split <;> split <;> omega
  rw [e1, e2]
theorem sub64_0 (x y : Int) (hx : 0 ≤ x) (hy : 0 ≤ y) (hy2 : y ≤ 18446744073709551615) (w : World) : (callFunc 37 #[.int .u64 x, .int .u64 y, .int .u64 0]).run Try.prog w =
    .ok (.value (.tuple #[.int .u64 (lo64 (x - y)), .int .u64 (borF x y)])) w := by
  simpa using sub64 x y 0 hx hy hy2 (Int.le_refl 0) (by decide) w

set_option maxHeartbeats 1000000 in
theorem div64 (hi lo y : Int) (w : World) (h0 : 0 ≤ hi) (h1 : hi < y) (h2 : y ≤ 18446744073709551615) (l0 : 0 ≤ lo) (l1 : lo ≤ 18446744073709551615) :
    Calls Try.prog 38 #[.int .u64 hi, .int .u64 lo, .int .u64 y] w fun e w' => e = .returned (.tuple #[.int .u64 (quoF hi lo y), .int .u64 (remF hi lo y)]) ∧ ∃ m, w' = w.drewN m := by
  by_cases h : hi = 0
  · subst h
    have q : quoF 0 lo y = lo / y := by unfold quoF; simp
    have r : remF 0 lo y = lo % y := by unfold remF; simp
    rw [q, r]
    clear q r
    have e1 : (y == 0) = false := beq_eq_false_iff_ne.2 (by omega)
    have e2 : decide (y ≤ 0) = false := decide_eq_false (by omega)
    have n1 : ¬ y = 0 := by omega
    have b1 : 0 ≤ lo / y := Int.ediv_nonneg l0 (by omega)
    have b2 : lo / y ≤ lo := Int.ediv_le_self _ l0
    have b3 := Int.emod_nonneg lo n1
    have b4 := Int.emod_lt_of_pos lo (show 0 < y by omega)
    have f1 : IntKind.u64.wrap (lo.tdiv y) = lo / y := IntWalk.u64_quo _ _ (by omega)
    have f2 : lo.tmod y = lo % y := Int.tmod_eq_emod_of_nonneg l0
    go_enter Try.func38, Try.ntmps38
    go_wp2_with fail
    go_quiet (fail)
    go_wp2_with fail
    go_ret2
    exact ⟨by rfl, _, rfl⟩
  · refine (div64_big hi lo y w (by omega) h1 h2 l0 l1).mono ?_
    rintro e w' ⟨rfl, rfl⟩
    exact ⟨rfl, 0, rfl⟩

/-- A sum of two products as a number of 128 bits. -/
theorem two_words (X Y : Int) : lo64 (lo64 X + lo64 Y) = lo64 (X + Y) ∧ hi64 (lo64 X + lo64 Y) ≤ 1 ∧ 0 ≤ hi64 (lo64 X + lo64 Y) ∧ hi64 X + hi64 Y + hi64 (lo64 X + lo64 Y) = hi64 (X + Y) := by
  unfold hi64 lo64; omega

set_option maxHeartbeats 1000000 in
theorem mixed (a x b y : Int) (w : World) (a0 : 0 ≤ a) (a1 : a ≤ 9223372036854775807) (x0 : 0 ≤ x) (x1 : x ≤ 9223372036854775807) (b0 : 0 ≤ b) (b1 : b ≤ 9223372036854775807) (y0 : 0 ≤ y) (y1 : y ≤ 9223372036854775807) (hs : hi64 (a * x + b * y) ≤ 9223372036854775807) :
    Calls Try.prog 47 #[.int .i64 a, .int .i64 x, .int .i64 b, .int .i64 y] w fun e w' => e = .returned (.tuple #[.int .u64 (hi64 (a * x + b * y)), .int .u64 (lo64 (a * x + b * y))]) ∧ w = w' := by
  have p1 := Int.mul_nonneg a0 x0
  have p2 := Int.mul_nonneg b0 y0
  obtain ⟨t1, t2, t3, t4⟩ := two_words (a * x) (b * y)
  have l1 := lo64_bd (a * x)
  have l2 := lo64_bd (b * y)
  have g1 := hi64_nn p1
  have g2 := hi64_nn p2
  have T := Lib.hid (And.intro t1 t4)
  clear t1 t4
  have hs2 : 0 ≤ hi64 (a * x + b * y) := hi64_nn (by omega)
  have l3 := lo64_bd (a * x + b * y)
  have h5 : lo64 (hi64 (a * x + b * y)) = hi64 (a * x + b * y) := by unfold lo64; omega
  have H5 := Lib.hid h5
  clear h5
  go_enter Try.func47, Try.ntmps47
  go_wp2_with fail
  refine (mul64 _ _ (by omega) (by omega) (by omega) (by omega) _).mono ?_; rintro e w1 ⟨rfl, rfl⟩
  go_wp2_with fail
  refine (mul64 _ _ (by omega) (by omega) (by omega) (by omega) _).mono ?_; rintro e w1 ⟨rfl, rfl⟩
  go_wp2_with (first | simp only [add64_0 _ _ l1.1 l2.1] | simp only [add64 _ _ _ g1 g2 t3 t2])
  go_ret2
  exact ⟨ret_2 (by rw [T.out.2, H5.out]) T.out.1, rfl⟩

/-- The integral of the first ticks of a stretch. -/
def intF (fr tp L k : Int) : Int := k * (fr * (2 * L - k) + tp * k) / (2 * L * 483840)

theorem int_words (A k : Int) : (hi64 (lo64 A * k) + hi64 A * k) * 18446744073709551616 + lo64 (lo64 A * k) = k * A := by
  have e : lo64 A + hi64 A * 18446744073709551616 = A := by unfold lo64 hi64; omega
  have e2 : lo64 (lo64 A * k) + hi64 (lo64 A * k) * 18446744073709551616 = lo64 A * k := by unfold lo64 hi64; omega
  have e3 : k * A = lo64 A * k + hi64 A * k * 18446744073709551616 := by
    rw [← e, Int.mul_comm k, Int.add_mul, Int.mul_right_comm]
    rw [e]
  omega

set_option maxHeartbeats 1000000 in
/-- tempo.integral. -/
theorem integral (fr tp L k : Int) (w : World) (f0 : 1 ≤ fr) (f1 : fr ≤ 60000000) (t0 : 1 ≤ tp) (t1 : tp ≤ 60000000) (L0 : 1 ≤ L) (L1 : L ≤ 4398046511104) (k0 : 0 ≤ k) (k1 : k ≤ L) :
    Calls Try.prog 30 #[.int .i64 fr, .int .i64 tp, .int .i64 L, .int .i64 k] w fun e w' => e = .returned (.int .i64 (intF fr tp L k)) ∧ ∃ m, w' = w.drewN m := by
  have p1 := mul_bd (a := fr) (b := 2 * L - k) (x := 60000000) (y := 8796093022208) (by omega) f1 (by omega) (by omega)
  have p2 := mul_bd (a := tp) (b := k) (x := 60000000) (y := 4398046511104) (by omega) t1 k0 (by omega)
  obtain ⟨A, hA⟩ : ∃ A, fr * (2 * L - k) + tp * k = A := ⟨_, rfl⟩
  have A0 : 0 ≤ A := by omega
  have A1 : A ≤ 791648371998720000000 := by omega
  have h1 : 0 ≤ hi64 A ∧ hi64 A ≤ 43 := by unfold hi64; omega
  have l1 := lo64_bd A
  have p3 := mul_bd (a := lo64 A) (b := k) (x := 18446744073709551615) (y := 4398046511104) l1.1 l1.2 k0 (by omega)
  have h2 : 0 ≤ hi64 (lo64 A * k) ∧ hi64 (lo64 A * k) ≤ 4398046511104 := by unfold hi64; omega
  have l2 := lo64_bd (lo64 A * k)
  have p4 := mul_bd (a := hi64 A) (b := k) (x := 43) (y := 4398046511104) h1.1 h1.2 k0 (by omega)
  have W := int_words A k
  have p5 := mul_bd (a := k) (b := A) (x := 4398046511104) (y := 791648371998720000000) k0 (by omega) A0 A1
  -- the high word is below the divisor
  have hlt : hi64 (lo64 A * k) + hi64 A * k < 2 * L * 483840 := by
    have q1 : A ≤ 60000000 * (2 * L) := by
      have a1 : fr * (2 * L - k) ≤ 60000000 * (2 * L - k) := Int.mul_le_mul_of_nonneg_right f1 (by omega)
      have a2 : tp * k ≤ 60000000 * k := Int.mul_le_mul_of_nonneg_right t1 k0
      omega
    have q2 : k * A ≤ 4398046511104 * (60000000 * (2 * L)) := Int.mul_le_mul (by omega) q1 A0 (by omega)
    omega
  have hq : quoF (hi64 (lo64 A * k) + hi64 A * k) (lo64 (lo64 A * k)) (2 * L * 483840) = intF fr tp L k := by
    unfold quoF intF; rw [W, hA]
  have hqb : 0 ≤ intF fr tp L k ∧ intF fr tp L k ≤ 9223372036854775807 := by
    rw [← hq]; unfold quoF; rw [W]
    have r1 : k * A ≤ 4398046511104 * (60000000 * (2 * L)) := by
      have a1 : fr * (2 * L - k) ≤ 60000000 * (2 * L - k) := Int.mul_le_mul_of_nonneg_right f1 (by omega)
      have a2 : tp * k ≤ 60000000 * k := Int.mul_le_mul_of_nonneg_right t1 k0
      exact Int.mul_le_mul (by omega) (by omega) A0 (by omega)
    refine ⟨Int.ediv_nonneg p5.1 (by omega), ?_⟩
    have : k * A / (2 * L * 483840) < 9223372036854775807 := by
      apply (Int.ediv_lt_iff_lt_mul (by omega)).2
      omega
    omega
  have HQ := Lib.hid hq
  have HA := Lib.hid hA
  clear W hq p5 A1
  go_enter Try.func30, Try.ntmps30
  go_wp2_with fail
  refine (mixed _ _ _ _ _ (by omega) (by omega) (by omega) (by omega) (by omega) (by omega) (by omega) (by omega) (by rw [HA.out]; omega)).mono ?_; rintro e w1 ⟨rfl, rfl⟩
  rw [HA.out]
  clear hA p1 p2
  go_wp2_with fail
  refine (mul64 _ _ (by omega) (by omega) (by omega) (by omega) _).mono ?_; rintro e w1 ⟨rfl, rfl⟩
  go_wp2_with fail
  refine (div64 _ _ _ _ (by omega) hlt (by omega) l2.1 l2.2).mono ?_; rintro e w1 ⟨rfl, m, rfl⟩
  rw [HQ.out]
  go_wp2_with fail
  go_ret
  exact ⟨rfl, _, rfl⟩
end Go.Proofs.Ytgfbmdpjgcibjaa
