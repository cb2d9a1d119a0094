/- The model's integral. -/
import Derived.Test.YtgfbmdpjgcibjaaE3
namespace Go.Proofs.Ytgfbmdpjgcibjaa
open Go.RowKit

theorem words_mul (A k : Int) : hi64 (lo64 A * k) + hi64 A * k = hi64 (k * A) ∧ lo64 (lo64 A * k) = lo64 (k * A) := by
  have := int_words A k
  have l := lo64_bd (lo64 A * k)
  generalize hi64 (lo64 A * k) + hi64 A * k = H at *
  generalize lo64 (lo64 A * k) = L at *
  unfold hi64 lo64
  omega

theorem quo_words (Z d : Int) : quoF (hi64 Z) (lo64 Z) d = Z / d := by
  unfold quoF
  have : hi64 Z * 18446744073709551616 + lo64 Z = Z := by unfold hi64 lo64; omega
  rw [this]

theorem sub_words {X Y : Int} (h : Y ≤ X) (hy : 0 ≤ Y) (hs : hi64 X ≤ 9223372036854775807) : lo64 (lo64 X - lo64 Y) = lo64 (X - Y) ∧ lo64 (hi64 X - hi64 Y - borF (lo64 X) (lo64 Y)) = hi64 (X - Y) ∧ 0 ≤ borF (lo64 X) (lo64 Y) ∧ borF (lo64 X) (lo64 Y) ≤ 1 := by
  unfold borF hi64 lo64 at *
  split <;> omega

/-- The integral's numerator, as the model has it. -/
theorem numer (fr tp L k : Int) : k * (fr * (2 * L - k) + tp * k) = k * (2 * L * fr) + k * (k * (tp - fr)) := by
  rw [← Int.mul_add]
  congr 1
  rw [Int.mul_sub, Int.mul_sub, Int.mul_comm fr (2 * L), Int.mul_comm fr k, Int.mul_comm tp k]
  omega

set_option maxHeartbeats 2000000 in
theorem integralL (fr tp L k : Int) (w : World) (f0 : 1 ≤ fr) (f1 : fr ≤ 60000000) (t0 : 1 ≤ tp) (t1 : tp ≤ 60000000) (L0 : 1 ≤ L) (L1 : L ≤ 4398046511104) (k0 : 0 ≤ k) (k1 : k ≤ L) :
    Calls Try.prog 19 #[.int .i64 fr, .int .i64 tp, .int .i64 L, .int .i64 k] w fun e w' => e = .returned (.int .i64 (intF fr tp L k)) ∧ ∃ m, w' = w.drewN m := by
  have p1 := mul_bd (a := fr) (b := 2 * L - k) (x := 60000000) (y := 8796093022208) (by omega) f1 (by omega) (by omega)
  have p2 := mul_bd (a := tp) (b := k) (x := 60000000) (y := 4398046511104) (by omega) t1 k0 (by omega)
  have A1 : fr * (2 * L - k) + tp * k ≤ 60000000 * (2 * L) := by
    have a1 : fr * (2 * L - k) ≤ 60000000 * (2 * L - k) := Int.mul_le_mul_of_nonneg_right f1 (by omega)
    have a2 : tp * k ≤ 60000000 * k := Int.mul_le_mul_of_nonneg_right t1 k0
    omega
  have z0 : 0 ≤ k * (fr * (2 * L - k) + tp * k) := Int.mul_nonneg k0 (by omega)
  have z1 : k * (fr * (2 * L - k) + tp * k) ≤ 4398046511104 * (60000000 * (2 * L)) := Int.mul_le_mul (by omega) A1 (by omega) (by omega)
  have hlt : hi64 (k * (fr * (2 * L - k) + tp * k)) < 2 * L * 483840 := by
    unfold hi64
    apply (Int.ediv_lt_iff_lt_mul (by omega)).2
    omega
  have hq : quoF (hi64 (k * (fr * (2 * L - k) + tp * k))) (lo64 (k * (fr * (2 * L - k) + tp * k))) (2 * L * 483840) = intF fr tp L k := by
    rw [quo_words]; rfl
  have hqb : 0 ≤ intF fr tp L k ∧ intF fr tp L k ≤ 9223372036854775807 := by
    unfold intF
    refine ⟨Int.ediv_nonneg z0 (by omega), ?_⟩
    have : k * (fr * (2 * L - k) + tp * k) / (2 * L * 483840) < 9223372036854775807 := by
      apply (Int.ediv_lt_iff_lt_mul (by omega)).2
      omega
    omega
  have zn := hi64_nn z0
  have zl := lo64_bd (k * (fr * (2 * L - k) + tp * k))
  have nm := numer fr tp L k
  -- the first product
  have x1 := mul_bd (a := 2 * L) (b := fr) (x := 8796093022208) (y := 60000000) (by omega) (by omega) (by omega) f1
  have x2 := mul_bd (a := k) (b := 2 * L * fr) (x := 4398046511104) (y := 8796093022208 * 60000000) k0 (by omega) x1.1 x1.2
  obtain ⟨wa, wb⟩ := words_mul (2 * L * fr) k
  have la := lo64_bd (2 * L * fr)
  have ha : 0 ≤ hi64 (2 * L * fr) ∧ hi64 (2 * L * fr) ≤ 43 := by unfold hi64; omega
  have q1 := mul_bd (a := hi64 (2 * L * fr)) (b := k) (x := 43) (y := 4398046511104) ha.1 ha.2 k0 (by omega)
  have q2 := mul_bd (a := lo64 (2 * L * fr)) (b := k) (x := 18446744073709551615) (y := 4398046511104) la.1 la.2 k0 (by omega)
  have q3 : 0 ≤ hi64 (lo64 (2 * L * fr) * k) ∧ hi64 (lo64 (2 * L * fr) * k) ≤ 4398046511104 := by unfold hi64; omega
  have hX : 0 ≤ hi64 (k * (2 * L * fr)) ∧ hi64 (k * (2 * L * fr)) ≤ 4398046511104 * 44 := by unfold hi64; omega
  have lX := lo64_bd (k * (2 * L * fr))
  by_cases hge : fr ≤ tp
  · have y1 := mul_bd (a := k) (b := tp - fr) (x := 4398046511104) (y := 60000000) k0 (by omega) (by omega) (by omega)
    have y2 := mul_bd (a := k) (b := k * (tp - fr)) (x := 4398046511104) (y := 4398046511104 * 60000000) k0 (by omega) y1.1 y1.2
    obtain ⟨wc, wd⟩ := words_mul (k * (tp - fr)) k
    have lb := lo64_bd (k * (tp - fr))
    have hb : 0 ≤ hi64 (k * (tp - fr)) ∧ hi64 (k * (tp - fr)) ≤ 43 := by unfold hi64; omega
    have q4 := mul_bd (a := hi64 (k * (tp - fr))) (b := k) (x := 43) (y := 4398046511104) hb.1 hb.2 k0 (by omega)
    have q5 : 0 ≤ hi64 (lo64 (k * (tp - fr)) * k) ∧ hi64 (lo64 (k * (tp - fr)) * k) ≤ 4398046511104 := by
      have := mul_bd (a := lo64 (k * (tp - fr))) (b := k) (x := 18446744073709551615) (y := 4398046511104) lb.1 lb.2 k0 (by omega)
      unfold hi64; omega
    have hY : 0 ≤ hi64 (k * (k * (tp - fr))) ∧ hi64 (k * (k * (tp - fr))) ≤ 4398046511104 * 44 := by unfold hi64; omega
    have lY := lo64_bd (k * (k * (tp - fr)))
    obtain ⟨tw1, tw2, tw3, tw4⟩ := two_words (k * (2 * L * fr)) (k * (k * (tp - fr)))
    rw [← nm] at tw1 tw4
    have tw5 : lo64 (hi64 (k * (2 * L * fr)) + hi64 (k * (k * (tp - fr))) + hi64 (lo64 (k * (2 * L * fr)) + lo64 (k * (k * (tp - fr))))) = hi64 (k * (fr * (2 * L - k) + tp * k)) := by
      rw [tw4]; unfold lo64; omega
    have mx : max (tp - fr) (fr - tp) = tp - fr := by omega
    generalize hZ : k * (fr * (2 * L - k) + tp * k) = Z at *
    generalize hXX : k * (2 * L * fr) = X at *
    generalize hYY : k * (k * (tp - fr)) = Y at *
    have HQ := Lib.hid hq
    clear nm hq tw4 hZ hXX hYY A1 p1 p2 z0 z1 x2 y2
    go_enter Try.func19, Try.ntmps19
    go_wp2_with fail
    refine (mul64 _ _ (by omega) (by omega) (by omega) (by omega) _).mono ?_; rintro e w1 ⟨rfl, rfl⟩
    go_wp2_with fail
    refine (mul64 _ _ (by omega) (by omega) (by omega) (by omega) _).mono ?_; rintro e w1 ⟨rfl, rfl⟩
    go_wp2_with fail
    refine (mul64 _ _ (by omega) (by omega) (by omega) (by omega) _).mono ?_; rintro e w1 ⟨rfl, rfl⟩
    go_wp2_with fail
    refine (mul64 _ _ (by omega) (by omega) (by omega) (by omega) _).mono ?_; rintro e w1 ⟨rfl, rfl⟩
    go_wp2_with (first | simp only [add64_0 _ _ lX.1 lY.1] | simp only [add64 _ _ _ hX.1 hY.1 tw3 tw2])
    refine (div64 _ _ _ _ zn hlt (by omega) zl.1 zl.2).mono ?_; rintro e w1 ⟨rfl, m, rfl⟩
    rw [HQ.out]
    go_wp2_with fail
    go_ret
    exact ⟨rfl, _, rfl⟩
  · have y1 := mul_bd (a := k) (b := fr - tp) (x := 4398046511104) (y := 60000000) k0 (by omega) (by omega) (by omega)
    have y2 := mul_bd (a := k) (b := k * (fr - tp)) (x := 4398046511104) (y := 4398046511104 * 60000000) k0 (by omega) y1.1 y1.2
    obtain ⟨wc, wd⟩ := words_mul (k * (fr - tp)) k
    have lb := lo64_bd (k * (fr - tp))
    have hb : 0 ≤ hi64 (k * (fr - tp)) ∧ hi64 (k * (fr - tp)) ≤ 43 := by unfold hi64; omega
    have q4 := mul_bd (a := hi64 (k * (fr - tp))) (b := k) (x := 43) (y := 4398046511104) hb.1 hb.2 k0 (by omega)
    have q5 : 0 ≤ hi64 (lo64 (k * (fr - tp)) * k) ∧ hi64 (lo64 (k * (fr - tp)) * k) ≤ 4398046511104 := by
      have := mul_bd (a := lo64 (k * (fr - tp))) (b := k) (x := 18446744073709551615) (y := 4398046511104) lb.1 lb.2 k0 (by omega)
      unfold hi64; omega
    have hY : 0 ≤ hi64 (k * (k * (fr - tp))) ∧ hi64 (k * (k * (fr - tp))) ≤ 4398046511104 * 44 := by unfold hi64; omega
    have lY := lo64_bd (k * (k * (fr - tp)))
    have hYm : hi64 (k * (k * (fr - tp))) ≤ 18446744073709551615 := by omega
    have nm2 : k * (fr * (2 * L - k) + tp * k) = k * (2 * L * fr) - k * (k * (fr - tp)) := by
      rw [nm]
      have : k * (k * (tp - fr)) = - (k * (k * (fr - tp))) := by rw [← Int.mul_neg, ← Int.mul_neg]; congr 2; omega
      omega
    obtain ⟨tw1, tw5, tw2, tw3⟩ := sub_words (X := k * (2 * L * fr)) (Y := k * (k * (fr - tp))) (by omega) y2.1 (by omega)
    rw [← nm2] at tw1 tw5
    have mx : max (tp - fr) (fr - tp) = fr - tp := by omega
    generalize hZ : k * (fr * (2 * L - k) + tp * k) = Z at *
    generalize hXX : k * (2 * L * fr) = X at *
    generalize hYY : k * (k * (fr - tp)) = Y at *
    have HQ := Lib.hid hq
    clear nm nm2 hq hZ hXX hYY A1 p1 p2 z0 z1 x2 y2
    go_enter Try.func19, Try.ntmps19
    go_wp2_with fail
    refine (mul64 _ _ (by omega) (by omega) (by omega) (by omega) _).mono ?_; rintro e w1 ⟨rfl, rfl⟩
    go_wp2_with fail
    refine (mul64 _ _ (by omega) (by omega) (by omega) (by omega) _).mono ?_; rintro e w1 ⟨rfl, rfl⟩
    go_wp2_with fail
    refine (mul64 _ _ (by omega) (by omega) (by omega) (by omega) _).mono ?_; rintro e w1 ⟨rfl, rfl⟩
    go_wp2_with fail
    refine (mul64 _ _ (by omega) (by omega) (by omega) (by omega) _).mono ?_; rintro e w1 ⟨rfl, rfl⟩
    go_wp2_with (first | simp only [sub64_0 _ _ lX.1 lY.1 lY.2] | simp only [sub64 _ _ _ hX.1 hY.1 hYm tw2 tw3])
    refine (div64 _ _ _ _ zn hlt (by omega) zl.1 zl.2).mono ?_; rintro e w1 ⟨rfl, m, rfl⟩
    rw [HQ.out]
    go_wp2_with fail
    go_ret
    exact ⟨rfl, _, rfl⟩
end Go.Proofs.Ytgfbmdpjgcibjaa
