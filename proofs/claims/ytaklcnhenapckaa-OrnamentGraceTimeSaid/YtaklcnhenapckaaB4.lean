/- Contracts: the model's expansion whole; same. -/
import Derived.Test.YtaklcnhenapckaaB2
import Derived.Test.YtaklcnhenapckaaB3
namespace Go.Proofs.Ytaklcnhenapckaa
open Go.RowKit

theorem owns_full2 (w : World) (o : Obj) (cur : Array Value) (e : TypeId) (size n : Nat) (h : cur.size = n * size) (hm : n ≤ maxLen) :
    ((w.alloc o).alloc (.cells cur e)).ownsRow w.heap.size e size (.slice (some ⟨w.heap.size + 1, 0, none⟩) n n) n cur.toList := by
  have h := owns_full (w.alloc o) w.heap.size cur e size n (by simp) h hm
  rw [World.size_alloc] at h
  exact h

set_option maxHeartbeats 8000000 in
theorem expL_ok (kind len up down : Int) (w : World) (h : expandE kind len up down = 0) :
    Calls Try.prog 14 #[.int .i64 kind, .int .i64 len, .int .i64 up, .int .i64 down] w (NotesRet (expandL kind len up down) w) := by
  have hr : 0 ≤ kind ∧ kind ≤ 4 ∧ 1 ≤ len ∧ len ≤ 4398046511104 ∧ 1 ≤ up ∧ up ≤ 12 ∧ -12 ≤ down ∧ down ≤ -1 := by
    unfold expandE at h; split at h
    · omega
    · split at h <;> omega
  clear h
  obtain ⟨h1, h2, h3, h4, h5, h6, h7, h8⟩ := hr
  skip
  by_cases k1 : kind = 1
  · subst k1
    by_cases t : trillN len < 3
    · have hl : expandL 1 len up down = [(0, len, 0)] := by unfold expandL; rw [if_pos rfl, if_pos t]
      rw [hl]
      have hc : (len / 30240 ≤ 511 ∧ (len / 30240 % 2 == 0) = false ∧ len / 30240 < 3) ∨ (len / 30240 ≤ 511 ∧ (len / 30240 % 2 == 0) = true ∧ len / 30240 - 1 < 3) := by
        unfold trillN at t
        by_cases g1 : len / 30240 ≤ 511
        · rw [show min (len / 30240) 511 = len / 30240 by omega] at t
          by_cases g2 : len / 30240 % 2 = 0
          · rw [if_pos g2] at t; exact .inr ⟨g1, by simpa using g2, t⟩
          · rw [if_neg g2] at t; exact .inl ⟨g1, by simpa using g2, t⟩
        · rw [show min (len / 30240) 511 = 511 by omega] at t
          simp at t
      clear t hl
      rcases hc with ⟨c1, c2, c3⟩ | ⟨c1, c2, c3⟩
      all_goals
        go_enter Try.func14, Try.ntmps14
        go_wp2_with fail
        go_ret2
        exact ⟨_, _, rfl, owns_full w w.heap.size #[.int .i64 0, .int .i64 len, .int .i64 0] 36 3 1 (Nat.le_refl _) rfl (by unfold maxLen; omega), by go_grown⟩
    · obtain ⟨N, hN⟩ := Int.eq_ofNat_of_zero_le (show 0 ≤ trillN len by omega)
      have hl : expandL 1 len up down = notesTo len up N N := by unfold expandL; rw [if_pos rfl, if_neg t, hN]; rfl
      rw [hl]
      unfold NotesRet
      rw [notesTo_len]
      exact expL_trill len up down w h3 h4 h5 h6 h7 h8 N hN (by omega)
  by_cases s0 : 0 < len / 4
  · have hmin : min (len / 4) 30240 = if 30240 < len / 4 then 30240 else len / 4 := by split <;> omega
    by_cases k4 : kind = 4
    · subst k4
      have hl : expandL 4 len up down = [(0, len / 4, up), (len / 4, 2 * (len / 4), 0), (2 * (len / 4), 3 * (len / 4), down), (3 * (len / 4), len, 0)] := by unfold expandL; rw [if_neg (by omega), if_pos ⟨rfl, s0⟩]
      rw [hl]
      clear hl hmin
      go_enter Try.func14, Try.ntmps14
      go_wp2_with fail
      all_goals
        go_ret2
        exact ⟨w.heap.size + 1, _, rfl, owns_full2 w (.cells #[.int .i64 0, .int .i64 len, .int .i64 0] 36) #[.int .i64 0, .int .i64 (len / 4), .int .i64 up, .int .i64 (len / 4), .int .i64 (2 * (len / 4)), .int .i64 0, .int .i64 (2 * (len / 4)), .int .i64 (3 * (len / 4)), .int .i64 down, .int .i64 (3 * (len / 4)), .int .i64 len, .int .i64 0] 36 3 4 rfl (by unfold maxLen; omega), by go_grown⟩
    by_cases k2 : kind = 2
    · subst k2
      by_cases sm : 30240 < len / 4
      · have hl : expandL 2 len up down = [(0, 30240, 0), (30240, 60480, down), (60480, len, 0)] := by
          unfold expandL; rw [hmin, if_pos sm]; simp [s0]
        rw [hl]
        clear hl hmin
        go_enter Try.func14, Try.ntmps14
        go_wp2_with fail
        all_goals
          go_ret2
          exact ⟨w.heap.size + 1, _, rfl, owns_full2 w (.cells #[.int .i64 0, .int .i64 len, .int .i64 0] 36) #[.int .i64 0, .int .i64 30240, .int .i64 0, .int .i64 30240, .int .i64 60480, .int .i64 down, .int .i64 60480, .int .i64 len, .int .i64 0] 36 3 3 rfl (by unfold maxLen; omega), by go_grown⟩
      · have hl : expandL 2 len up down = [(0, len / 4, 0), (len / 4, 2 * (len / 4), down), (2 * (len / 4), len, 0)] := by
          unfold expandL; rw [hmin, if_neg sm]; simp [s0]
        rw [hl]
        clear hl hmin
        go_enter Try.func14, Try.ntmps14
        go_wp2_with fail
        all_goals
          go_ret2
          exact ⟨w.heap.size + 1, _, rfl, owns_full2 w (.cells #[.int .i64 0, .int .i64 len, .int .i64 0] 36) #[.int .i64 0, .int .i64 (len / 4), .int .i64 0, .int .i64 (len / 4), .int .i64 (2 * (len / 4)), .int .i64 down, .int .i64 (2 * (len / 4)), .int .i64 len, .int .i64 0] 36 3 3 rfl (by unfold maxLen; omega), by go_grown⟩
    by_cases k3 : kind = 3
    · subst k3
      by_cases sm : 30240 < len / 4
      · have hl : expandL 3 len up down = [(0, 30240, 0), (30240, 60480, up), (60480, len, 0)] := by
          unfold expandL; rw [hmin, if_pos sm]; simp [s0]
        rw [hl]
        clear hl hmin
        go_enter Try.func14, Try.ntmps14
        go_wp2_with fail
        all_goals
          go_ret2
          exact ⟨w.heap.size + 1, _, rfl, owns_full2 w (.cells #[.int .i64 0, .int .i64 len, .int .i64 0] 36) #[.int .i64 0, .int .i64 30240, .int .i64 0, .int .i64 30240, .int .i64 60480, .int .i64 up, .int .i64 60480, .int .i64 len, .int .i64 0] 36 3 3 rfl (by unfold maxLen; omega), by go_grown⟩
      · have hl : expandL 3 len up down = [(0, len / 4, 0), (len / 4, 2 * (len / 4), up), (2 * (len / 4), len, 0)] := by
          unfold expandL; rw [hmin, if_neg sm]; simp [s0]
        rw [hl]
        clear hl hmin
        go_enter Try.func14, Try.ntmps14
        go_wp2_with fail
        all_goals
          go_ret2
          exact ⟨w.heap.size + 1, _, rfl, owns_full2 w (.cells #[.int .i64 0, .int .i64 len, .int .i64 0] 36) #[.int .i64 0, .int .i64 (len / 4), .int .i64 0, .int .i64 (len / 4), .int .i64 (2 * (len / 4)), .int .i64 up, .int .i64 (2 * (len / 4)), .int .i64 len, .int .i64 0] 36 3 3 rfl (by unfold maxLen; omega), by go_grown⟩
    · have hl : expandL kind len up down = [(0, len, 0)] := by unfold expandL; rw [if_neg k1, if_neg (by omega), if_neg (by omega), if_neg (by omega)]
      obtain rfl : kind = 0 := by omega
      rw [hl]
      clear hl hmin
      go_enter Try.func14, Try.ntmps14
      go_wp2_with fail
      all_goals
        go_ret2
        exact ⟨_, _, rfl, owns_full w w.heap.size #[.int .i64 0, .int .i64 len, .int .i64 0] 36 3 1 (Nat.le_refl _) rfl (by unfold maxLen; omega), by go_grown⟩
  · have hl : expandL kind len up down = [(0, len, 0)] := by unfold expandL; rw [if_neg k1, if_neg (by omega), if_neg (by omega), if_neg (by omega)]
    rw [hl]
    clear hl
    have hk : kind = 0 ∨ kind = 2 ∨ kind = 3 ∨ kind = 4 := by omega
    rcases hk with rfl | rfl | rfl | rfl
    all_goals
      go_enter Try.func14, Try.ntmps14
      go_wp2_with fail
      all_goals
        go_ret2
        exact ⟨_, _, rfl, owns_full w w.heap.size #[.int .i64 0, .int .i64 len, .int .i64 0] 36 3 1 (Nat.le_refl _) rfl (by unfold maxLen; omega), by go_grown⟩
end Go.Proofs.Ytaklcnhenapckaa
