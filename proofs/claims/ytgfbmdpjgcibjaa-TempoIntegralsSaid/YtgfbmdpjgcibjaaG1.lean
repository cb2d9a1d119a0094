/- TempoIntegrals. -/
import Derived.Test.YtgfbmdpjgcibjaaE12
import Derived.Test.YtgfbmdpjgcibjaaE4
namespace Go.Proofs.Ytgfbmdpjgcibjaa
open Go.RowKit

theorem inB (n a b : Int) (v : Bool) (h : decide (a ≤ n ∧ n ≤ b) = v) (w : World) : Calls Try.prog 18 #[.int .i64 n, .int .i64 a, .int .i64 b] w fun e w' => e = .returned (.bool v) ∧ w = w' := h ▸ inF n a b w

set_option maxHeartbeats 2000000 in
theorem integralsBad (fr tp L k : Int) (w : World) (h : ¬ okI fr tp L k) :
    Calls Try.prog 6 #[.agg #[.int .i64 fr, .int .i64 tp], .int .i64 L, .int .i64 k] w fun r w' => r = .returned (.bool true) ∧ Below w.heap.size w w' := by
  have hI := fun w => integralBad fr tp L k w h
  have hc : (decide (1 ≤ fr ∧ fr ≤ 60000000) = false) ∨ (decide (1 ≤ fr ∧ fr ≤ 60000000) = true ∧ decide (1 ≤ tp ∧ tp ≤ 60000000) = false) ∨ (decide (1 ≤ fr ∧ fr ≤ 60000000) = true ∧ decide (1 ≤ tp ∧ tp ≤ 60000000) = true ∧ decide (1 ≤ L ∧ L ≤ 4398046511104) = false) ∨
      (decide (1 ≤ fr ∧ fr ≤ 60000000) = true ∧ decide (1 ≤ tp ∧ tp ≤ 60000000) = true ∧ decide (1 ≤ L ∧ L ≤ 4398046511104) = true ∧ decide (0 ≤ k ∧ k ≤ L) = false) := by
    simp only [decide_eq_true_eq, decide_eq_false_iff_not]
    unfold okI at h
    omega
  clear h
  rcases hc with c1 | ⟨c1, c2⟩ | ⟨c1, c2, c3⟩ | ⟨c1, c2, c3, c4⟩
  all_goals
    go_enter Try.func6, Try.ntmps6
    go_wp2_with fail
    refine (hI _).mono ?_
    rintro e w1 ⟨rfl, m, rfl⟩
    go_wp2_with fail
    refine (known _).mono ?_
    rintro e w2 ⟨rfl, hb2⟩
    have s0 : w2.cell? ⟨w.heap.size, 0, none⟩ = some (.int .i64 fr) := (hb2.cell (p := ⟨_, _, none⟩) (by simp)).trans (by simp [go_sem])
    have s1 : w2.cell? ⟨w.heap.size, 1, none⟩ = some (.int .i64 tp) := (hb2.cell (p := ⟨_, _, none⟩) (by simp)).trans (by simp [go_sem])
    have hb : Below w.heap.size w w2 := (below_drewN' ((Below.refl _ w).alloc (Nat.le_refl _) _) m).trans (hb2.mono (by simp))
    go_wp2_with (go_at_call 18; refine (inB _ _ _ _ (by assumption) _).mono ?_; rintro e w' ⟨rfl, rfl⟩)
    go_ret
    exact ⟨rfl, hb⟩

set_option maxHeartbeats 2000000 in
theorem integralsGood (fr tp L k : Int) (w : World) (h : okI fr tp L k) :
    Calls Try.prog 6 #[.agg #[.int .i64 fr, .int .i64 tp], .int .i64 L, .int .i64 k] w fun r w' => r = .returned (.bool true) ∧ Below w.heap.size w w' := by
  have hI := fun w => integralOk fr tp L k w h
  obtain ⟨⟨f0, f1⟩, ⟨t0, t1⟩, ⟨L0, L1⟩, k0, k1⟩ := h
  have hJ := fun w => integralL fr tp L k w f0 f1 t0 t1 L0 L1 k0 k1
  have c1 : decide (1 ≤ fr ∧ fr ≤ 60000000) = true := decide_eq_true ⟨f0, f1⟩
  have c2 : decide (1 ≤ tp ∧ tp ≤ 60000000) = true := decide_eq_true ⟨t0, t1⟩
  have c3 : decide (1 ≤ L ∧ L ≤ 4398046511104) = true := decide_eq_true ⟨L0, L1⟩
  have c4 : decide (0 ≤ k ∧ k ≤ L) = true := decide_eq_true ⟨k0, k1⟩
  clear f0 f1 t0 t1 L0 L1 k0 k1
  generalize intF fr tp L k = R at hI hJ
  go_enter Try.func6, Try.ntmps6
  go_wp2_with fail
  refine (hI _).mono ?_
  rintro e w1 ⟨rfl, m, rfl⟩
  go_wp2_with fail
  refine (known _).mono ?_
  rintro e w2 ⟨rfl, hb2⟩
  have s0 : w2.cell? ⟨w.heap.size, 0, none⟩ = some (.int .i64 fr) := (hb2.cell (p := ⟨_, _, none⟩) (by simp)).trans (by simp [go_sem])
  have s1 : w2.cell? ⟨w.heap.size, 1, none⟩ = some (.int .i64 tp) := (hb2.cell (p := ⟨_, _, none⟩) (by simp)).trans (by simp [go_sem])
  have hb : Below w.heap.size w w2 := (below_drewN' ((Below.refl _ w).alloc (Nat.le_refl _) _) m).trans (hb2.mono (by simp))
  go_wp2_with (first | (go_at_call 18; refine (inB _ _ _ _ (by assumption) _).mono ?_; rintro e w' ⟨rfl, rfl⟩) | (go_at_call 19; refine (hJ _).mono ?_; rintro e w' ⟨rfl, m2, rfl⟩))
  go_ret
  exact ⟨by simp, below_drewN' hb _⟩

theorem integralsC (fr tp L k : Int) (w : World) :
    Calls Try.prog 6 #[.agg #[.int .i64 fr, .int .i64 tp], .int .i64 L, .int .i64 k] w fun r w' => r = .returned (.bool true) ∧ Below w.heap.size w w' := by
  by_cases h : okI fr tp L k
  · exact integralsGood fr tp L k w h
  · exact integralsBad fr tp L k w h
end Go.Proofs.Ytgfbmdpjgcibjaa
