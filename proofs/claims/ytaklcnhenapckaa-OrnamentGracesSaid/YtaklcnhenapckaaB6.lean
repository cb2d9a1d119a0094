/- The law OrnamentExpands. -/
import Derived.Test.YtaklcnhenapckaaB4
import Derived.Test.YtaklcnhenapckaaB5
namespace Go.Proofs.Ytaklcnhenapckaa
open Go.RowKit

theorem same_nil (w : World) : Calls Try.prog 15 #[.slice none 0 0, .slice none 0 0] w fun e w' => e = .returned (.bool true) ∧ w = w' := by
  go_enter Try.func15, Try.ntmps15
  go_wp2_with fail
  go_rounds 1
  go_ret
  exact ⟨rfl, rfl⟩

theorem expandL_len (kind len up down : Int) (h1 : 1 ≤ len) (h2 : len ≤ 4398046511104) : 1 ≤ (expandL kind len up down).length ∧ (expandL kind len up down).length ≤ 511 := by
  have := trillN_bd len h1 h2
  unfold expandL
  split
  · split
    · simp
    · rw [notesTo_len]; omega
  · (repeat' split) <;> simp

set_option maxHeartbeats 2000000 in
theorem lawExpands (kind len up down : Int) (w : World) :
    Calls Try.prog 4 #[.int .i64 kind, .int .i64 len, .agg #[.int .i64 up, .int .i64 down]] w fun e w' => e = .returned (.bool true) ∧ Below w.heap.size w w' := by
  by_cases h : expandE kind len up down = 0
  · have hr : 1 ≤ len ∧ len ≤ 4398046511104 := by
      unfold expandE at h; split at h
      · omega
      · split at h <;> omega
    obtain ⟨n1, n2⟩ := expandL_len kind len up down hr.1 hr.2
    generalize hL : expandL kind len up down = L at n1 n2
    have hL := Lib.hid hL
    go_enter Try.func4, Try.ntmps4
    go_wp2_with fail
    refine (expO_ok _ _ _ _ _ h).mono ?_; rintro e w1 ⟨g, cap, rfl, ho, hb1⟩
    rw [hL.out] at ho ⊢
    obtain ⟨hc1, hf1⟩ := bcell hb1
    have hz1 : w.heap.size < w1.heap.size := by have := hb1.size; simp at this; omega
    have B1 := bstep ((Below.refl _ _).alloc (Nat.le_refl _) _) hb1
    go_wp2_with fail
    refine (expL_ok _ _ _ _ _ h).mono ?_; rintro e w2 ⟨g', cap', rfl, ho', hb2⟩
    rw [hL.out] at ho' ⊢
    have B2 := bstep B1 hb2
    have r1 := Lib.hid ((rd3_of_own ho rfl).below hb2)
    have r2 := Lib.hid (rd3_of_own ho' rfl)
    clear ho ho'
    go_wp2_with fail
    refine (known _).mono ?_; rintro e w3 ⟨rfl, hb3⟩
    have r1' := Lib.hid (r1.out.below hb3)
    have r2' := Lib.hid (r2.out.below hb3)
    go_wp2_with fail
    refine (same_eq g g' cap cap' L.length _ _ _ (by omega) w3 r1'.out r2'.out).mono ?_; rintro e w4 ⟨rfl, hb4⟩
    go_wp2_with fail
    go_ret
    exact ⟨rfl, bstep (bstep B2 hb3) hb4⟩
  · go_enter Try.func4, Try.ntmps4
    go_wp2_with fail
    refine (expO_err _ _ _ _ _ h).mono ?_; rintro e w1 ⟨rfl, rfl⟩
    go_wp2_with fail
    refine (expL_err _ _ _ _ _ h).mono ?_; rintro e w1 ⟨rfl, rfl⟩
    go_wp2_with fail
    refine (known _).mono ?_; rintro e w3 ⟨rfl, hb3⟩
    go_wp2_with fail
    refine (same_nil _).mono ?_; rintro e w4 ⟨rfl, rfl⟩
    go_wp2_with fail
    go_ret
    exact ⟨rfl, bstep ((Below.refl _ _).alloc (Nat.le_refl _) _) hb3⟩
end Go.Proofs.Ytaklcnhenapckaa
