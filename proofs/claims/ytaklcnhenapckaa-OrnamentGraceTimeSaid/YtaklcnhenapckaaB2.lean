/- Contracts: the two expansions. -/
import Derived.Test.YtaklcnhenapckaaB1
namespace Go.Proofs.Ytaklcnhenapckaa
open Go.RowKit

def expandL (kind len up down : Int) : List (Int × Int × Int) :=
  if kind = 1 then (if trillN len < 3 then [(0, len, 0)] else notesTo len up (trillN len) (trillN len).toNat)
  else if kind = 4 ∧ 0 < len / 4 then [(0, len / 4, up), (len / 4, 2 * (len / 4), 0), (2 * (len / 4), 3 * (len / 4), down), (3 * (len / 4), len, 0)]
  else if kind = 2 ∧ 0 < len / 4 then [(0, min (len / 4) 30240, 0), (min (len / 4) 30240, 2 * min (len / 4) 30240, down), (2 * min (len / 4) 30240, len, 0)]
  else if kind = 3 ∧ 0 < len / 4 then [(0, min (len / 4) 30240, 0), (min (len / 4) 30240, 2 * min (len / 4) 30240, up), (2 * min (len / 4) 30240, len, 0)]
  else [(0, len, 0)]

def expandE (kind len up down : Int) : Int :=
  if kind < 0 ∨ 4 < kind then 11 else if len < 1 ∨ 4398046511104 < len ∨ up < 1 ∨ 12 < up ∨ down < -12 ∨ -1 < down then 2 else 0

/-- Notes, no error: the slice is the call's own. -/
def NotesRet (l : List (Int × Int × Int)) (w : World) (e : Ending) (w' : World) : Prop :=
  ∃ g cap, e = .returned (.tuple #[.slice (some ⟨g, 0, none⟩) l.length cap, .int .i64 0]) ∧ w'.ownsRow w.heap.size 36 3 (.slice (some ⟨g, 0, none⟩) l.length cap) l.length (cellsN l) ∧ Below w.heap.size w w'

theorem owns_full (w : World) (B : Nat) (cur : Array Value) (e : TypeId) (size n : Nat) (hB : B ≤ w.heap.size) (h : cur.size = n * size) (hm : n ≤ maxLen) :
    (w.alloc (.cells cur e)).ownsRow B e size (.slice (some ⟨w.heap.size, 0, none⟩) n n) n cur.toList :=
  ⟨by simpa using h, .inr ⟨w.heap.size, n, cur, rfl, hB, heap_alloc_new w _, Nat.le_refl _, hm, h, List.take_of_length_le (by simp [h])⟩⟩

set_option maxHeartbeats 2000000 in
theorem expO_err (kind len up down : Int) (w : World) (h : expandE kind len up down ≠ 0) :
    Calls Try.prog 13 #[.int .i64 kind, .int .i64 len, .int .i64 up, .int .i64 down] w fun e w' => e = .returned (.tuple #[.slice none 0 0, .int .i64 (expandE kind len up down)]) ∧ w = w' := by
  have hc : kind < 0 ∨ (0 ≤ kind ∧ 4 < kind) ∨ (0 ≤ kind ∧ kind ≤ 4 ∧ len < 1) ∨ (0 ≤ kind ∧ kind ≤ 4 ∧ 1 ≤ len ∧ 4398046511104 < len) ∨ (0 ≤ kind ∧ kind ≤ 4 ∧ 1 ≤ len ∧ len ≤ 4398046511104 ∧ up < 1) ∨ (0 ≤ kind ∧ kind ≤ 4 ∧ 1 ≤ len ∧ len ≤ 4398046511104 ∧ 1 ≤ up ∧ 12 < up) ∨ (0 ≤ kind ∧ kind ≤ 4 ∧ 1 ≤ len ∧ len ≤ 4398046511104 ∧ 1 ≤ up ∧ up ≤ 12 ∧ down < -12) ∨ (0 ≤ kind ∧ kind ≤ 4 ∧ 1 ≤ len ∧ len ≤ 4398046511104 ∧ 1 ≤ up ∧ up ≤ 12 ∧ -12 ≤ down ∧ -1 < down) := by
    unfold expandE at h
    split at h
    · omega
    · split at h <;> omega
  clear h
  rcases hc with h1 | ⟨h1, h2⟩ | ⟨h1, h2, h3⟩ | ⟨h1, h2, h3, h4⟩ | ⟨h1, h2, h3, h4, h5⟩ | ⟨h1, h2, h3, h4, h5, h6⟩ | ⟨h1, h2, h3, h4, h5, h6, h7⟩ | ⟨h1, h2, h3, h4, h5, h6, h7, h8⟩
  iterate 2
    · have he := Lib.hid (show expandE kind len up down = 11 by unfold expandE; rw [if_pos (by omega)])
      go_enter Try.func13, Try.ntmps13
      go_wp2_with fail
      go_ret2
      exact ⟨by rw [he.out]; rfl, rfl⟩
  all_goals
    have he := Lib.hid (show expandE kind len up down = 2 by unfold expandE; rw [if_neg (by omega), if_pos (by omega)])
    go_enter Try.func13, Try.ntmps13
    go_wp2_with fail
    go_ret2
    exact ⟨by rw [he.out]; rfl, rfl⟩

set_option maxHeartbeats 2000000 in
theorem expL_err (kind len up down : Int) (w : World) (h : expandE kind len up down ≠ 0) :
    Calls Try.prog 14 #[.int .i64 kind, .int .i64 len, .int .i64 up, .int .i64 down] w fun e w' => e = .returned (.tuple #[.slice none 0 0, .int .i64 (expandE kind len up down)]) ∧ w = w' := by
  have hc : kind < 0 ∨ (0 ≤ kind ∧ 4 < kind) ∨ (0 ≤ kind ∧ kind ≤ 4 ∧ len < 1) ∨ (0 ≤ kind ∧ kind ≤ 4 ∧ 1 ≤ len ∧ 4398046511104 < len) ∨ (0 ≤ kind ∧ kind ≤ 4 ∧ 1 ≤ len ∧ len ≤ 4398046511104 ∧ up < 1) ∨ (0 ≤ kind ∧ kind ≤ 4 ∧ 1 ≤ len ∧ len ≤ 4398046511104 ∧ 1 ≤ up ∧ 12 < up) ∨ (0 ≤ kind ∧ kind ≤ 4 ∧ 1 ≤ len ∧ len ≤ 4398046511104 ∧ 1 ≤ up ∧ up ≤ 12 ∧ down < -12) ∨ (0 ≤ kind ∧ kind ≤ 4 ∧ 1 ≤ len ∧ len ≤ 4398046511104 ∧ 1 ≤ up ∧ up ≤ 12 ∧ -12 ≤ down ∧ -1 < down) := by
    unfold expandE at h
    split at h
    · omega
    · split at h <;> omega
  clear h
  rcases hc with h1 | ⟨h1, h2⟩ | ⟨h1, h2, h3⟩ | ⟨h1, h2, h3, h4⟩ | ⟨h1, h2, h3, h4, h5⟩ | ⟨h1, h2, h3, h4, h5, h6⟩ | ⟨h1, h2, h3, h4, h5, h6, h7⟩ | ⟨h1, h2, h3, h4, h5, h6, h7, h8⟩
  iterate 2
    · have he := Lib.hid (show expandE kind len up down = 11 by unfold expandE; rw [if_pos (by omega)])
      go_enter Try.func14, Try.ntmps14
      go_wp2_with fail
      go_ret2
      exact ⟨by rw [he.out]; rfl, rfl⟩
  all_goals
    have he := Lib.hid (show expandE kind len up down = 2 by unfold expandE; rw [if_neg (by omega), if_pos (by omega)])
    go_enter Try.func14, Try.ntmps14
    go_wp2_with fail
    go_ret2
    exact ⟨by rw [he.out]; rfl, rfl⟩

set_option maxHeartbeats 8000000 in
theorem expO_ok (kind len up down : Int) (w : World) (h : expandE kind len up down = 0) :
    Calls Try.prog 13 #[.int .i64 kind, .int .i64 len, .int .i64 up, .int .i64 down] w (NotesRet (expandL kind len up down) w) := by
  have hr : 0 ≤ kind ∧ kind ≤ 4 ∧ 1 ≤ len ∧ len ≤ 4398046511104 ∧ 1 ≤ up ∧ up ≤ 12 ∧ -12 ≤ down ∧ down ≤ -1 := by
    unfold expandE at h; split at h
    · omega
    · split at h <;> omega
  clear h
  obtain ⟨h1, h2, h3, h4, h5, h6, h7, h8⟩ := hr
  have hn := fun (W : World) (a : Option Addr) (n c : Nat) => Lib.run_eql_slice_nil (P := Try.prog) W 30 36 a n c 0 0 Try.underlying30
  by_cases k1 : kind = 1
  · subst k1
    by_cases t : trillN len < 3
    · have hl : expandL 1 len up down = [(0, len, 0)] := by unfold expandL; rw [if_pos rfl, if_pos t]
      rw [hl]
      go_enter Try.func13, Try.ntmps13
      go_wp2_with (go_at_call 28; refine (trillShort _ _ _ h3 h4 t).mono ?_; rintro e w' ⟨rfl, rfl⟩)
      all_goals
        go_ret2
        exact ⟨_, _, rfl, owns_full w w.heap.size #[.int .i64 0, .int .i64 len, .int .i64 0] 36 3 1 (Nat.le_refl _) rfl (by unfold maxLen; omega), by go_grown⟩
    · obtain ⟨N, hN⟩ := Int.eq_ofNat_of_zero_le (show 0 ≤ trillN len by omega)
      have hl : expandL 1 len up down = notesTo len up N N := by unfold expandL; rw [if_pos rfl, if_neg t, hN]; rfl
      rw [hl]
      unfold NotesRet
      rw [notesTo_len]
      have t3 : 3 ≤ N := by omega
      have hN := Lib.hid hN
      clear hl t
      go_enter Try.func13, Try.ntmps13
      go_wp2_with (go_at_call 28; refine (trillLong _ _ _ h3 h4 N hN.out t3).mono ?_; rintro e w' ⟨g, cap, rfl, hown, hb⟩)
      all_goals
        go_ret2
        exact ⟨g, cap, rfl, hown, hb⟩
  by_cases s0 : 0 < len / 4
  · have hmin : min (len / 4) 30240 = if 30240 < len / 4 then 30240 else len / 4 := by split <;> omega
    by_cases k4 : kind = 4
    · subst k4
      have hl : expandL 4 len up down = [(0, len / 4, up), (len / 4, 2 * (len / 4), 0), (2 * (len / 4), 3 * (len / 4), down), (3 * (len / 4), len, 0)] := by unfold expandL; rw [if_neg (by omega), if_pos ⟨rfl, s0⟩]
      rw [hl]
      clear hl hmin
      go_enter Try.func13, Try.ntmps13
      go_wp2_with fail
      all_goals
        go_ret2
        exact ⟨_, _, rfl, owns_full w w.heap.size #[.int .i64 0, .int .i64 (len / 4), .int .i64 up, .int .i64 (len / 4), .int .i64 (2 * (len / 4)), .int .i64 0, .int .i64 (2 * (len / 4)), .int .i64 (3 * (len / 4)), .int .i64 down, .int .i64 (3 * (len / 4)), .int .i64 len, .int .i64 0] 36 3 4 (Nat.le_refl _) rfl (by unfold maxLen; omega), by go_grown⟩
    by_cases k2 : kind = 2
    · subst k2
      by_cases sm : 30240 < len / 4
      · have hl : expandL 2 len up down = [(0, 30240, 0), (30240, 60480, down), (60480, len, 0)] := by
          unfold expandL; rw [hmin, if_pos sm]; simp [s0]
        rw [hl]
        clear hl hmin
        go_enter Try.func13, Try.ntmps13
        go_wp2_with fail
        all_goals
          go_ret2
          exact ⟨_, _, rfl, owns_full w w.heap.size #[.int .i64 0, .int .i64 30240, .int .i64 0, .int .i64 30240, .int .i64 60480, .int .i64 down, .int .i64 60480, .int .i64 len, .int .i64 0] 36 3 3 (Nat.le_refl _) rfl (by unfold maxLen; omega), by go_grown⟩
      · have hl : expandL 2 len up down = [(0, len / 4, 0), (len / 4, 2 * (len / 4), down), (2 * (len / 4), len, 0)] := by
          unfold expandL; rw [hmin, if_neg sm]; simp [s0]
        rw [hl]
        clear hl hmin
        go_enter Try.func13, Try.ntmps13
        go_wp2_with fail
        all_goals
          go_ret2
          exact ⟨_, _, rfl, owns_full w w.heap.size #[.int .i64 0, .int .i64 (len / 4), .int .i64 0, .int .i64 (len / 4), .int .i64 (2 * (len / 4)), .int .i64 down, .int .i64 (2 * (len / 4)), .int .i64 len, .int .i64 0] 36 3 3 (Nat.le_refl _) rfl (by unfold maxLen; omega), by go_grown⟩
    by_cases k3 : kind = 3
    · subst k3
      by_cases sm : 30240 < len / 4
      · have hl : expandL 3 len up down = [(0, 30240, 0), (30240, 60480, up), (60480, len, 0)] := by
          unfold expandL; rw [hmin, if_pos sm]; simp [s0]
        rw [hl]
        clear hl hmin
        go_enter Try.func13, Try.ntmps13
        go_wp2_with fail
        all_goals
          go_ret2
          exact ⟨_, _, rfl, owns_full w w.heap.size #[.int .i64 0, .int .i64 30240, .int .i64 0, .int .i64 30240, .int .i64 60480, .int .i64 up, .int .i64 60480, .int .i64 len, .int .i64 0] 36 3 3 (Nat.le_refl _) rfl (by unfold maxLen; omega), by go_grown⟩
      · have hl : expandL 3 len up down = [(0, len / 4, 0), (len / 4, 2 * (len / 4), up), (2 * (len / 4), len, 0)] := by
          unfold expandL; rw [hmin, if_neg sm]; simp [s0]
        rw [hl]
        clear hl hmin
        go_enter Try.func13, Try.ntmps13
        go_wp2_with fail
        all_goals
          go_ret2
          exact ⟨_, _, rfl, owns_full w w.heap.size #[.int .i64 0, .int .i64 (len / 4), .int .i64 0, .int .i64 (len / 4), .int .i64 (2 * (len / 4)), .int .i64 up, .int .i64 (2 * (len / 4)), .int .i64 len, .int .i64 0] 36 3 3 (Nat.le_refl _) rfl (by unfold maxLen; omega), by go_grown⟩
    · have hl : expandL kind len up down = [(0, len, 0)] := by unfold expandL; rw [if_neg k1, if_neg (by omega), if_neg (by omega), if_neg (by omega)]
      obtain rfl : kind = 0 := by omega
      rw [hl]
      clear hl hmin
      go_enter Try.func13, Try.ntmps13
      go_wp2_with fail
      all_goals
        go_ret2
        exact ⟨_, _, rfl, owns_full w w.heap.size #[.int .i64 0, .int .i64 len, .int .i64 0] 36 3 1 (Nat.le_refl _) rfl (by unfold maxLen; omega), by go_grown⟩
  · have hl : expandL kind len up down = [(0, len, 0)] := by unfold expandL; rw [if_neg k1, if_neg (by omega), if_neg (by omega), if_neg (by omega)]
    rw [hl]
    clear hl
    have hk : kind = 0 ∨ kind = 2 ∨ kind = 3 ∨ kind = 4 := by omega
    rcases hk with rfl | rfl | rfl | rfl
    all_goals
      go_enter Try.func13, Try.ntmps13
      go_wp2_with fail
      all_goals
        go_ret2
        exact ⟨_, _, rfl, owns_full w w.heap.size #[.int .i64 0, .int .i64 len, .int .i64 0] 36 3 1 (Nat.le_refl _) rfl (by unfold maxLen; omega), by go_grown⟩
end Go.Proofs.Ytaklcnhenapckaa
