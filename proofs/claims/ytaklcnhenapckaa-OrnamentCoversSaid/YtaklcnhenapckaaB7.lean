/- The law OrnamentCovers. -/
import Derived.Test.YtaklcnhenapckaaB6
namespace Go.Proofs.Ytaklcnhenapckaa
open Go.RowKit

/-- What the law asks of a list of notes: each begins where the one before ends (the first at 0), is positive, and differs from the one before. -/
def coversAt (l : List (Int × Int × Int)) : Prop :=
  (∀ k, k < l.length → (l.getD k (0, 0, 0)).1 = (if k = 0 then 0 else (l.getD (k - 1) (0, 0, 0)).2.1) ∧ (l.getD k (0, 0, 0)).1 < (l.getD k (0, 0, 0)).2.1 ∧ (0 < k → (l.getD k (0, 0, 0)).2.2 ≠ (l.getD (k - 1) (0, 0, 0)).2.2))

theorem div_lt_div {a b n : Int} (hn : 1 ≤ n) (h : a + n ≤ b) : a / n < b / n := by
  have h1 : (a + n) / n = a / n + 1 := by rw [Int.add_ediv_of_dvd_right ⟨1, by simp⟩, Int.ediv_self (by omega)]
  have h2 := Int.ediv_le_ediv (show (0 : Int) < n by omega) h
  omega

theorem expandL_covers (kind len up down : Int) (h1 : 1 ≤ len) (h2 : len ≤ 4398046511104) (u1 : 1 ≤ up) (d2 : down ≤ -1) :
    coversAt (expandL kind len up down) ∧ ((expandL kind len up down).getD ((expandL kind len up down).length - 1) (0, 0, 0)).2.1 = len ∧ ((expandL kind len up down).getD ((expandL kind len up down).length - 1) (0, 0, 0)).2.2 = 0 := by
  have hsing : coversAt [(0, len, 0)] ∧ (([(0, len, 0)] : List (Int × Int × Int)).getD ([(0, len, 0)].length - 1) (0, 0, 0)).2.1 = len ∧ (([(0, len, 0)] : List (Int × Int × Int)).getD ([(0, len, 0)].length - 1) (0, 0, 0)).2.2 = 0 := by
    refine ⟨?_, rfl, rfl⟩
    intro k hk
    obtain rfl : k = 0 := by simpa using hk
    simp; omega
  unfold expandL
  split
  · split
    · exact hsing
    · obtain ⟨N, hN⟩ := Int.eq_ofNat_of_zero_le (show 0 ≤ trillN len by omega)
      have hodd : N % 2 = 1 := by
        unfold trillN at hN; split at hN <;> omega
      have hle : (N : Int) * 30240 ≤ len := by
        unfold trillN at hN; split at hN <;> omega
      rw [hN]
      simp only [Int.toNat_natCast]
      have hget : ∀ k, k < N → (notesTo len up N N).getD k (0, 0, 0) = noteAt len up N k := by
        intro k hk; unfold notesTo; simp [List.getD, hk]
      have hmono : ∀ k : Nat, (k : Int) * len / N < ((k : Int) + 1) * len / N := by
        intro k
        have e : ((k : Int) + 1) * len = k * len + len := by rw [Int.add_mul, Int.one_mul]
        rw [e]
        exact div_lt_div (by omega) (by omega)
      refine ⟨?_, ?_, ?_⟩
      · intro k hk
        rw [notesTo_len] at hk
        rw [hget k hk]
        refine ⟨?_, hmono k, ?_⟩
        · split
          · subst k; simp [noteAt]
          · rw [hget (k - 1) (by omega)]
            simp only [noteAt]
            rw [show (((k - 1 : Nat) : Int) + 1) = k by omega]
        · intro h0
          rw [hget (k - 1) (by omega)]
          simp only [noteAt]
          by_cases hp : (k : Int) % 2 = 1
          · rw [if_pos hp, if_neg (by omega)]; omega
          · rw [if_neg hp, if_pos (by omega)]; omega
      · rw [notesTo_len, hget (N - 1) (by omega)]
        simp only [noteAt]
        rw [show (((N - 1 : Nat) : Int) + 1) = N by omega, Int.mul_comm]
        exact Int.mul_ediv_cancel _ (by omega)
      · rw [notesTo_len, hget (N - 1) (by omega)]
        simp only [noteAt]
        rw [if_neg (by omega)]
  · have four : ∀ (a b c d : Int × Int × Int) (k : Nat), k < [a, b, c, d].length → k = 0 ∨ k = 1 ∨ k = 2 ∨ k = 3 := by intro a b c d k hk; simp at hk; omega
    have three : ∀ (a b c : Int × Int × Int) (k : Nat), k < [a, b, c].length → k = 0 ∨ k = 1 ∨ k = 2 := by intro a b c k hk; simp at hk; omega
    split
    · refine ⟨?_, rfl, rfl⟩
      intro k hk
      rcases four _ _ _ _ k hk with rfl | rfl | rfl | rfl <;> simp <;> omega
    · split
      · refine ⟨?_, rfl, rfl⟩
        intro k hk
        rcases three _ _ _ k hk with rfl | rfl | rfl <;> simp <;> omega
      · split
        · refine ⟨?_, rfl, rfl⟩
          intro k hk
          rcases three _ _ _ k hk with rfl | rfl | rfl <;> simp <;> omega
        · exact hsing

set_option maxHeartbeats 4000000 in
theorem lawCovers (kind len up down : Int) (w : World) :
    Calls Try.prog 5 #[.int .i64 kind, .int .i64 len, .agg #[.int .i64 up, .int .i64 down]] w fun e w' => e = .returned (.bool true) ∧ Below w.heap.size w w' := by
  by_cases h : expandE kind len up down = 0
  · have hr : 1 ≤ len ∧ len ≤ 4398046511104 ∧ 1 ≤ up ∧ down ≤ -1 := by
      unfold expandE at h; split at h
      · omega
      · split at h <;> omega
    obtain ⟨n1, n2⟩ := expandL_len kind len up down hr.1 hr.2.1
    obtain ⟨k1, k2, k3⟩ := expandL_covers kind len up down hr.1 hr.2.1 hr.2.2.1 hr.2.2.2
    generalize hL : expandL kind len up down = L at n1 n2 k1 k2 k3
    have hL := Lib.hid hL
    have k1 := Lib.hid k1
    have k2 := Lib.hid k2
    have k3 := Lib.hid k3
    go_enter Try.func5, Try.ntmps5
    go_wp2_with fail
    refine (expO_ok _ _ _ _ _ h).mono ?_; rintro e w1 ⟨g, cap, rfl, ho, hb1⟩
    rw [hL.out] at ho ⊢
    have B1 := bstep ((Below.refl _ _).alloc (Nat.le_refl _) _) hb1
    have r1 := Lib.hid (rd3_of_own ho rfl)
    clear ho
    generalize hn : L.length = n at *
    have hn := Lib.hid hn
    go_wp2_with fail
    refine (known _).mono ?_; rintro e w3 ⟨rfl, hb3⟩
    have r3 := Lib.hid (r1.out.below hb3)
    have B3 := bstep B1 hb3
    go_wp2_with fail
    go_loopw [9, 10] (fun at_ i wr => ∃ (k : Nat) (a : Int), k ≤ n ∧ i = .int .i64 k ∧ at_ = .int .i64 a ∧ Hid (a = if k = 0 then 0 else (L.getD (k - 1) (0, 0, 0)).2.1) ∧ ∃ m, wr = w3.drewN m) (fun _ i _ => n - (intOf i).toNat)
    case atStart => exact ⟨0, 0, by omega, rfl, rfl, rfl, 0, rfl⟩
    case round =>
      obtain ⟨k, a, hk, rfl, rfl, ha, m, rfl⟩ := hrel
      by_cases hlt : k < n
      · obtain ⟨c1, c2, c3⟩ := k1.out k (by rw [hn.out]; exact hlt)
        rw [← ha.out] at c1
        obtain ⟨a1, a2, a3⟩ := r3.out k hlt
        replace a1 : w3.cell? ⟨g, k * 3, none⟩ = some (.int .i64 (L.getD k (0, 0, 0)).1) := a1
        replace a2 : w3.cell? ⟨g, k * 3 + 1, none⟩ = some (.int .i64 (L.getD k (0, 0, 0)).2.1) := a2
        replace a3 : w3.cell? ⟨g, k * 3 + 2, none⟩ = some (.int .i64 (L.getD k (0, 0, 0)).2.2) := a3
        rw [c1] at a1 c2
        clear c1
        rcases Nat.eq_zero_or_pos k with rfl | hpos
        · clear c3
          generalize hy : (L.getD 0 (0, 0, 0)).2.1 = y at *
          have hy := Lib.hid hy
          generalize (L.getD 0 (0, 0, 0)).2.2 = z at *
          have t1 : decide (y ≤ a) = false := by simp; omega
          go_wp2_with fail
          go_quiet (fail)
          go_wp2
          go_roundw
          case rel => exact ⟨1, y, by omega, rfl, rfl, by show y = _; rw [if_neg (by omega)]; exact hy.out.symm, _, rfl⟩
          case measure => simp [intOf]; omega
        · obtain ⟨j, rfl⟩ : ∃ j, k = j + 1 := ⟨k - 1, by omega⟩
          obtain ⟨_, _, b3⟩ := r3.out j (by omega)
          replace b3 : w3.cell? ⟨g, j * 3 + 2, none⟩ = some (.int .i64 (L.getD j (0, 0, 0)).2.2) := b3
          have c3 := c3 (by omega)
          rw [Nat.add_sub_cancel] at c3
          generalize hy : (L.getD (j + 1) (0, 0, 0)).2.1 = y at *
          have hy := Lib.hid hy
          generalize (L.getD (j + 1) (0, 0, 0)).2.2 = z at *
          generalize (L.getD j (0, 0, 0)).2.2 = z' at *
          have t1 : decide (y ≤ a) = false := by simp; omega
          have t2 : (z == z') = false := by simpa using c3
          have t3 : decide ((0 : Int) < (j : Int) + 1) = true := decide_eq_true (by omega)
          clear c3
          go_wp2_with fail
          go_quiet (fail)
          go_wp2
          go_roundw
          case rel => exact ⟨j + 1 + 1, y, by omega, by go_num, rfl, by show y = _; rw [if_neg (by omega)]; exact hy.out.symm, _, rfl⟩
          case measure => simp [intOf]; omega
      · obtain rfl : k = n := by omega
        have e1 : a = len := by
          rw [ha.out, if_neg (by omega), ← k2.out]
        have k3' := k3.out
        obtain ⟨j, rfl⟩ : ∃ j, k = j + 1 := ⟨k - 1, by omega⟩
        obtain ⟨_, _, b3⟩ := r3.out j (by omega)
        replace b3 : w3.cell? ⟨g, j * 3 + 2, none⟩ = some (.int .i64 (L.getD j (0, 0, 0)).2.2) := b3
        rw [Nat.add_sub_cancel] at k3'
        rw [k3'] at b3
        subst e1
        have t3 : decide ((0 : Int) < (j : Int) + 1) = true := decide_eq_true (by omega)
        have t4 : decide ((j : Int) + 1 < 512) = true := decide_eq_true (by omega)
        go_wp2
        go_ret
        exact ⟨rfl, below_drewN B3 _⟩
  · have h1 : (expandE kind len up down != 0) = true := by simpa using h
    go_enter Try.func5, Try.ntmps5
    go_wp2_with fail
    refine (expO_err _ _ _ _ _ h).mono ?_; rintro e w1 ⟨rfl, rfl⟩
    clear h
    go_wp2_with fail
    refine (known _).mono ?_; rintro e w3 ⟨rfl, hb3⟩
    go_wp2_with fail
    refine (known _).mono ?_; rintro e w4 ⟨rfl, hb4⟩
    go_wp2_with fail
    go_ret
    exact ⟨rfl, bstep (bstep ((Below.refl _ _).alloc (Nat.le_refl _) _) hb3) hb4⟩
end Go.Proofs.Ytaklcnhenapckaa
