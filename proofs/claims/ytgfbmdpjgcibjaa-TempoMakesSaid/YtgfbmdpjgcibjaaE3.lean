/- tempo.Integral, the model's integral. -/
import Derived.Test.YtgfbmdpjgcibjaaE2
namespace Go.Proofs.Ytgfbmdpjgcibjaa
open Go.RowKit

def microsF (n : Int) : Bool := decide (1 ≤ n ∧ n ≤ 60000000)
theorem micros (n : Int) (w : World) : Calls Try.prog 29 #[.int .i64 n] w fun e w' => e = .returned (.bool (microsF n)) ∧ w = w' := by
  by_cases h : 1 ≤ n
  all_goals
    go_enter Try.func29, Try.ntmps29
    go_wp2
    go_ret
    exact ⟨ret_bool (by unfold microsF; simp; omega), rfl⟩

theorem inF (n a b : Int) (w : World) : Calls Try.prog 18 #[.int .i64 n, .int .i64 a, .int .i64 b] w fun e w' => e = .returned (.bool (decide (a ≤ n ∧ n ≤ b))) ∧ w = w' := by
  by_cases h : a ≤ n
  all_goals
    go_enter Try.func18, Try.ntmps18
    go_wp2
    go_ret
    exact ⟨ret_bool (by simp; omega), rfl⟩

/-- What Integral asks. -/
def okI (fr tp L k : Int) : Prop := (1 ≤ fr ∧ fr ≤ 60000000) ∧ (1 ≤ tp ∧ tp ≤ 60000000) ∧ (1 ≤ L ∧ L ≤ 4398046511104) ∧ 0 ≤ k ∧ k ≤ L

set_option maxHeartbeats 1000000 in
theorem integralOk (fr tp L k : Int) (w : World) (h : okI fr tp L k) :
    Calls Try.prog 11 #[.int .i64 fr, .int .i64 tp, .int .i64 L, .int .i64 k] w fun e w' => e = .returned (.tuple #[.int .i64 (intF fr tp L k), .int .i64 0]) ∧ ∃ m, w' = w.drewN m := by
  obtain ⟨⟨f0, f1⟩, ⟨t0, t1⟩, ⟨L0, L1⟩, k0, k1⟩ := h
  have e1 : microsF fr = true := decide_eq_true ⟨f0, f1⟩
  have e2 : microsF tp = true := decide_eq_true ⟨t0, t1⟩
  go_enter Try.func11, Try.ntmps11
  go_wp2_with (first | (go_at_call 29; refine (micros _ _).mono ?_; rintro e w' ⟨rfl, rfl⟩) | (go_at_call 30; refine (integral _ _ _ _ _ f0 f1 t0 t1 L0 L1 k0 k1).mono ?_; rintro e w' ⟨rfl, m, rfl⟩))
  all_goals go_ret2
  all_goals exact ⟨rfl, _, rfl⟩

set_option maxHeartbeats 1000000 in
theorem integralBad (fr tp L k : Int) (w : World) (h : ¬ okI fr tp L k) :
    Calls Try.prog 11 #[.int .i64 fr, .int .i64 tp, .int .i64 L, .int .i64 k] w fun e w' => e = .returned (.tuple #[.int .i64 0, .int .i64 2]) ∧ ∃ m, w' = w.drewN m := by
  unfold okI at h
  by_cases e1 : 1 ≤ fr ∧ fr ≤ 60000000
  · by_cases e2 : 1 ≤ tp ∧ tp ≤ 60000000
    · have hc : L < 1 ∨ (1 ≤ L ∧ 4398046511104 < L) ∨ (1 ≤ L ∧ L ≤ 4398046511104 ∧ k < 0) ∨ (1 ≤ L ∧ L ≤ 4398046511104 ∧ 0 ≤ k ∧ L < k) := by omega
      have e1 : microsF fr = true := decide_eq_true e1
      have e2 : microsF tp = true := decide_eq_true e2
      clear h
      rcases hc with h1 | ⟨h1, h2⟩ | ⟨h1, h2, h3⟩ | ⟨h1, h2, h3, h4⟩
      all_goals
        go_enter Try.func11, Try.ntmps11
        go_wp2_with (go_at_call 29; refine (micros _ _).mono ?_; rintro e w' ⟨rfl, rfl⟩)
        go_ret2
        exact ⟨rfl, 0, rfl⟩
    · have e1 : microsF fr = true := decide_eq_true e1
      have e2 : microsF tp = false := decide_eq_false e2
      clear h
      go_enter Try.func11, Try.ntmps11
      go_wp2_with (go_at_call 29; refine (micros _ _).mono ?_; rintro e w' ⟨rfl, rfl⟩)
      go_ret2
      exact ⟨rfl, 0, rfl⟩
  · have e1 : microsF fr = false := decide_eq_false e1
    clear h
    go_enter Try.func11, Try.ntmps11
    go_wp2_with (go_at_call 29; refine (micros _ _).mono ?_; rintro e w' ⟨rfl, rfl⟩)
    go_ret2
    exact ⟨rfl, 0, rfl⟩
end Go.Proofs.Ytgfbmdpjgcibjaa
