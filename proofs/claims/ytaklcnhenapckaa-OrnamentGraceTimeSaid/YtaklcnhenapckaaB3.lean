/- Contracts: the model's expansion, same. -/
import Derived.Test.YtaklcnhenapckaaB1
namespace Go.Proofs.Ytaklcnhenapckaa
open Go.RowKit

/-- part: k times a length over n. -/
theorem part (k len n : Int) (w : World) (h0 : 0 ≤ k * len) (h1 : k * len ≤ 511 * 4398046511104) (h2 : 1 ≤ n) :
    Calls Try.prog 29 #[.int .i64 k, .int .i64 len, .int .i64 n] w fun e w' => e = .returned (.int .i64 (k * len / n)) ∧ w = w' := by
  go_enter Try.func29, Try.ntmps29
  go_wp2
  go_ret
  exact ⟨rfl, rfl⟩

theorem new1 (w : World) (a : Obj) : (w.alloc a).heap[w.heap.size]? = some a := heap_alloc_new w a

set_option maxRecDepth 100000 in
set_option maxHeartbeats 4000000 in
theorem expL_trill (len up down : Int) (w : World) (h1 : 1 ≤ len) (h2 : len ≤ 4398046511104) (u1 : 1 ≤ up) (u2 : up ≤ 12) (d1 : -12 ≤ down) (d2 : down ≤ -1) (N : Nat) (hN : trillN len = N) (h3 : 3 ≤ N) :
    Calls Try.prog 14 #[.int .i64 1, .int .i64 len, .int .i64 up, .int .i64 down] w fun e w' => ∃ g cap, e = .returned (.tuple #[.slice (some ⟨g, 0, none⟩) N cap, .int .i64 0]) ∧ w'.ownsRow w.heap.size 36 3 (.slice (some ⟨g, 0, none⟩) N cap) N (cellsN (notesTo len up N N)) ∧ Below w.heap.size w w' := by
  have hN2 : (N : Int) ≤ 511 := by have := trillN_bd len h1 h2; omega
  have hc : (511 < len / 30240 ∧ N = 511) ∨ (len / 30240 ≤ 511 ∧ (len / 30240 % 2 == 0) = false ∧ len / 30240 = N) ∨ (len / 30240 ≤ 511 ∧ (len / 30240 % 2 == 0) = true ∧ len / 30240 = N + 1) := by
    unfold trillN at hN
    by_cases g1 : len / 30240 ≤ 511
    · rw [show min (len / 30240) 511 = len / 30240 by omega] at hN
      by_cases g2 : len / 30240 % 2 = 0
      · rw [if_pos g2] at hN; exact .inr (.inr ⟨g1, by simpa using g2, by omega⟩)
      · rw [if_neg g2] at hN; exact .inr (.inl ⟨g1, by simpa using g2, by omega⟩)
    · rw [show min (len / 30240) 511 = 511 by omega] at hN
      simp at hN; exact .inl ⟨by omega, by omega⟩
  clear hN
  have hp : Hid (∀ k : Nat, k ≤ N → 0 ≤ (k : Int) * len ∧ (k : Int) * len ≤ 511 * 4398046511104) := fun k hk => mul_bd (by omega) (by omega) (by omega) h2
  obtain ⟨i0, hi, hz0, hz1, hz2⟩ := info_parts info36
  have hi := Lib.hid hi
  have h3' : decide ((N : Int) < 3) = false := by simp; omega
  rcases hc with ⟨c1, rfl⟩ | ⟨c1, c2, c3⟩ | ⟨c1, c2, c3⟩
  · go_enter Try.func14, Try.ntmps14
    go_wp2_with fail
    go_loopw [13, 14] (fun out i wr => ∃ k : Nat, k ≤ 511 ∧ i = .int .i64 k ∧ wr.ownsRow w.heap.size 36 3 out k (cellsN (notesTo len up 511 k)) ∧ Below w.heap.size w wr) (fun _ i _ => 511 - (intOf i).toNat)
    case atStart => exact ⟨0, by omega, rfl, World.ownsRow_nil _ _ _ _, by go_grown⟩
    case round =>
      obtain ⟨k, hk, rfl, hown, hbel⟩ := hrel
      clear c1
      by_cases hlt : k < 511
      · have hp1 := hp.out k (by omega)
        have hp2 := hp.out (k + 1) (by omega)
        have hp2 : 0 ≤ ((k : Int) + 1) * len ∧ ((k : Int) + 1) * len ≤ 511 * 4398046511104 := hp2
        have hs := hbel.size
        cases hpar : ((k : Int) % 2 == 1)
        · have hn := Lib.hid (show cellsN (notesTo len up 511 (k + 1)) = cellsN (notesTo len up 511 k) ++ [.int .i64 (k * len / 511), .int .i64 ((k + 1) * len / 511), .int .i64 0] from notes_even len up 511 k hpar)
          have hkm : (k : Int) % 2 = 0 := by simp at hpar; omega
          clear hpar
          go_wp2_with fail
          refine (part _ _ _ _ hp1.1 hp1.2 (by omega)).mono ?_; rintro e w' ⟨rfl, rfl⟩
          go_wp2_with fail
          refine (part _ _ _ _ hp2.1 hp2.2 (by omega)).mono ?_; rintro e w' ⟨rfl, rfl⟩
          go_wp2_with (at_builtin; refine wpList_append_lies _ rfl _ _ _ rfl w.heap.size 36 i0 (.agg #[.int .i64 0, .int .i64 0, .int .i64 0]) 3 24 Try.underlying30 hi.out hz0 hz1 hz2 rfl (by omega) _ k _ (by rfl) ((hown.alloc _)) ⟨wr.heap.size, 0, none⟩ 1 1 [.int .i64 (k * len / 511), .int .i64 ((k + 1) * len / 511), .int .i64 0] (by rfl) rfl ?_ ?_ (by omega) ?_ ?_ ?_ (wr.heap.size + 1) ?_ ?_)
          · exact World.news_of_block (new1 wr _)
          · intro u hu; simp at hu; rcases hu with rfl | rfl | rfl <;> rfl
          · unfold maxLen; omega
          · omega
          · simp; omega
          · simp
          · intro g cap w1 hown1 hgrow hat hlt1
            rw [← hn.out] at hown1
            have hlo := hown.lt
            go_wp2
            go_roundw
            case rel => exact ⟨k + 1, by omega, by go_num, hown1, (hbel.alloc hs _).grown hgrow (by simp; omega) (fun j hj => (hlo j hj).1)⟩
            case measure => simp [intOf]; omega
        · have hn := Lib.hid (show cellsN (notesTo len up 511 (k + 1)) = cellsN (notesTo len up 511 k) ++ [.int .i64 (k * len / 511), .int .i64 ((k + 1) * len / 511), .int .i64 up] from notes_odd len up 511 k hpar)
          have hkm : (k : Int) % 2 = 1 := by simp at hpar; omega
          clear hpar
          go_wp2_with fail
          refine (part _ _ _ _ hp1.1 hp1.2 (by omega)).mono ?_; rintro e w' ⟨rfl, rfl⟩
          go_wp2_with fail
          refine (part _ _ _ _ hp2.1 hp2.2 (by omega)).mono ?_; rintro e w' ⟨rfl, rfl⟩
          go_wp2_with (at_builtin; refine wpList_append_lies _ rfl _ _ _ rfl w.heap.size 36 i0 (.agg #[.int .i64 0, .int .i64 0, .int .i64 0]) 3 24 Try.underlying30 hi.out hz0 hz1 hz2 rfl (by omega) _ k _ (by rfl) ((hown.alloc _)) ⟨wr.heap.size, 0, none⟩ 1 1 [.int .i64 (k * len / 511), .int .i64 ((k + 1) * len / 511), .int .i64 up] (by rfl) rfl ?_ ?_ (by omega) ?_ ?_ ?_ (wr.heap.size + 1) ?_ ?_)
          · exact World.news_of_block (new1 wr _)
          · intro u hu; simp at hu; rcases hu with rfl | rfl | rfl <;> rfl
          · unfold maxLen; omega
          · omega
          · simp; omega
          · simp
          · intro g cap w1 hown1 hgrow hat hlt1
            rw [← hn.out] at hown1
            have hlo := hown.lt
            go_wp2
            go_roundw
            case rel => exact ⟨k + 1, by omega, by go_num, hown1, (hbel.alloc hs _).grown hgrow (by simp; omega) (fun j hj => (hlo j hj).1)⟩
            case measure => simp [intOf]; omega
      · obtain rfl : k = 511 := by omega
        obtain ⟨g, cap, rfl, _, _⟩ := hown.form (by omega)
        go_wp2
        go_ret2
        exact ⟨g, cap, rfl, hown, hbel⟩
  · have c4 : (((N : Int)) % 2 == 0) = false := by rw [← c3]; exact c2
    clear c2
    go_enter Try.func14, Try.ntmps14
    go_wp2_with fail
    go_loopw [13, 14] (fun out i wr => ∃ k : Nat, k ≤ N ∧ i = .int .i64 k ∧ wr.ownsRow w.heap.size 36 3 out k (cellsN (notesTo len up N k)) ∧ Below w.heap.size w wr) (fun _ i _ => N - (intOf i).toNat)
    case atStart => exact ⟨0, by omega, rfl, World.ownsRow_nil _ _ _ _, by go_grown⟩
    case round =>
      obtain ⟨k, hk, rfl, hown, hbel⟩ := hrel
      clear c1 c3
      by_cases hlt : k < N
      · have hp1 := hp.out k (by omega)
        have hp2 := hp.out (k + 1) (by omega)
        have hp2 : 0 ≤ ((k : Int) + 1) * len ∧ ((k : Int) + 1) * len ≤ 511 * 4398046511104 := hp2
        have hs := hbel.size
        cases hpar : ((k : Int) % 2 == 1)
        · have hn := Lib.hid (show cellsN (notesTo len up N (k + 1)) = cellsN (notesTo len up N k) ++ [.int .i64 (k * len / N), .int .i64 ((k + 1) * len / N), .int .i64 0] from notes_even len up N k hpar)
          have hkm : (k : Int) % 2 = 0 := by simp at hpar; omega
          clear hpar
          go_wp2_with fail
          refine (part _ _ _ _ hp1.1 hp1.2 (by omega)).mono ?_; rintro e w' ⟨rfl, rfl⟩
          go_wp2_with fail
          refine (part _ _ _ _ hp2.1 hp2.2 (by omega)).mono ?_; rintro e w' ⟨rfl, rfl⟩
          go_wp2_with (at_builtin; refine wpList_append_lies _ rfl _ _ _ rfl w.heap.size 36 i0 (.agg #[.int .i64 0, .int .i64 0, .int .i64 0]) 3 24 Try.underlying30 hi.out hz0 hz1 hz2 rfl (by omega) _ k _ (by rfl) ((hown.alloc _)) ⟨wr.heap.size, 0, none⟩ 1 1 [.int .i64 (k * len / N), .int .i64 ((k + 1) * len / N), .int .i64 0] (by rfl) rfl ?_ ?_ (by omega) ?_ ?_ ?_ (wr.heap.size + 1) ?_ ?_)
          · exact World.news_of_block (new1 wr _)
          · intro u hu; simp at hu; rcases hu with rfl | rfl | rfl <;> rfl
          · unfold maxLen; omega
          · omega
          · simp; omega
          · simp
          · intro g cap w1 hown1 hgrow hat hlt1
            rw [← hn.out] at hown1
            have hlo := hown.lt
            go_wp2
            go_roundw
            case rel => exact ⟨k + 1, by omega, by go_num, hown1, (hbel.alloc hs _).grown hgrow (by simp; omega) (fun j hj => (hlo j hj).1)⟩
            case measure => simp [intOf]; omega
        · have hn := Lib.hid (show cellsN (notesTo len up N (k + 1)) = cellsN (notesTo len up N k) ++ [.int .i64 (k * len / N), .int .i64 ((k + 1) * len / N), .int .i64 up] from notes_odd len up N k hpar)
          have hkm : (k : Int) % 2 = 1 := by simp at hpar; omega
          clear hpar
          go_wp2_with fail
          refine (part _ _ _ _ hp1.1 hp1.2 (by omega)).mono ?_; rintro e w' ⟨rfl, rfl⟩
          go_wp2_with fail
          refine (part _ _ _ _ hp2.1 hp2.2 (by omega)).mono ?_; rintro e w' ⟨rfl, rfl⟩
          go_wp2_with (at_builtin; refine wpList_append_lies _ rfl _ _ _ rfl w.heap.size 36 i0 (.agg #[.int .i64 0, .int .i64 0, .int .i64 0]) 3 24 Try.underlying30 hi.out hz0 hz1 hz2 rfl (by omega) _ k _ (by rfl) ((hown.alloc _)) ⟨wr.heap.size, 0, none⟩ 1 1 [.int .i64 (k * len / N), .int .i64 ((k + 1) * len / N), .int .i64 up] (by rfl) rfl ?_ ?_ (by omega) ?_ ?_ ?_ (wr.heap.size + 1) ?_ ?_)
          · exact World.news_of_block (new1 wr _)
          · intro u hu; simp at hu; rcases hu with rfl | rfl | rfl <;> rfl
          · unfold maxLen; omega
          · omega
          · simp; omega
          · simp
          · intro g cap w1 hown1 hgrow hat hlt1
            rw [← hn.out] at hown1
            have hlo := hown.lt
            go_wp2
            go_roundw
            case rel => exact ⟨k + 1, by omega, by go_num, hown1, (hbel.alloc hs _).grown hgrow (by simp; omega) (fun j hj => (hlo j hj).1)⟩
            case measure => simp [intOf]; omega
      · obtain rfl : k = N := by omega
        obtain ⟨g, cap, rfl, _, _⟩ := hown.form (by omega)
        go_wp2
        go_ret2
        exact ⟨g, cap, rfl, hown, hbel⟩
  · have c4 : (((N : Int) + 1) % 2 == 0) = true := by rw [← c3]; exact c2
    clear c2
    go_enter Try.func14, Try.ntmps14
    go_wp2_with fail
    go_loopw [13, 14] (fun out i wr => ∃ k : Nat, k ≤ N ∧ i = .int .i64 k ∧ wr.ownsRow w.heap.size 36 3 out k (cellsN (notesTo len up N k)) ∧ Below w.heap.size w wr) (fun _ i _ => N - (intOf i).toNat)
    case atStart => exact ⟨0, by omega, rfl, World.ownsRow_nil _ _ _ _, by go_grown⟩
    case round =>
      obtain ⟨k, hk, rfl, hown, hbel⟩ := hrel
      clear c1 c3
      by_cases hlt : k < N
      · have hp1 := hp.out k (by omega)
        have hp2 := hp.out (k + 1) (by omega)
        have hp2 : 0 ≤ ((k : Int) + 1) * len ∧ ((k : Int) + 1) * len ≤ 511 * 4398046511104 := hp2
        have hs := hbel.size
        cases hpar : ((k : Int) % 2 == 1)
        · have hn := Lib.hid (show cellsN (notesTo len up N (k + 1)) = cellsN (notesTo len up N k) ++ [.int .i64 (k * len / N), .int .i64 ((k + 1) * len / N), .int .i64 0] from notes_even len up N k hpar)
          have hkm : (k : Int) % 2 = 0 := by simp at hpar; omega
          clear hpar
          go_wp2_with fail
          refine (part _ _ _ _ hp1.1 hp1.2 (by omega)).mono ?_; rintro e w' ⟨rfl, rfl⟩
          go_wp2_with fail
          refine (part _ _ _ _ hp2.1 hp2.2 (by omega)).mono ?_; rintro e w' ⟨rfl, rfl⟩
          go_wp2_with (at_builtin; refine wpList_append_lies _ rfl _ _ _ rfl w.heap.size 36 i0 (.agg #[.int .i64 0, .int .i64 0, .int .i64 0]) 3 24 Try.underlying30 hi.out hz0 hz1 hz2 rfl (by omega) _ k _ (by rfl) ((hown.alloc _)) ⟨wr.heap.size, 0, none⟩ 1 1 [.int .i64 (k * len / N), .int .i64 ((k + 1) * len / N), .int .i64 0] (by rfl) rfl ?_ ?_ (by omega) ?_ ?_ ?_ (wr.heap.size + 1) ?_ ?_)
          · exact World.news_of_block (new1 wr _)
          · intro u hu; simp at hu; rcases hu with rfl | rfl | rfl <;> rfl
          · unfold maxLen; omega
          · omega
          · simp; omega
          · simp
          · intro g cap w1 hown1 hgrow hat hlt1
            rw [← hn.out] at hown1
            have hlo := hown.lt
            go_wp2
            go_roundw
            case rel => exact ⟨k + 1, by omega, by go_num, hown1, (hbel.alloc hs _).grown hgrow (by simp; omega) (fun j hj => (hlo j hj).1)⟩
            case measure => simp [intOf]; omega
        · have hn := Lib.hid (show cellsN (notesTo len up N (k + 1)) = cellsN (notesTo len up N k) ++ [.int .i64 (k * len / N), .int .i64 ((k + 1) * len / N), .int .i64 up] from notes_odd len up N k hpar)
          have hkm : (k : Int) % 2 = 1 := by simp at hpar; omega
          clear hpar
          go_wp2_with fail
          refine (part _ _ _ _ hp1.1 hp1.2 (by omega)).mono ?_; rintro e w' ⟨rfl, rfl⟩
          go_wp2_with fail
          refine (part _ _ _ _ hp2.1 hp2.2 (by omega)).mono ?_; rintro e w' ⟨rfl, rfl⟩
          go_wp2_with (at_builtin; refine wpList_append_lies _ rfl _ _ _ rfl w.heap.size 36 i0 (.agg #[.int .i64 0, .int .i64 0, .int .i64 0]) 3 24 Try.underlying30 hi.out hz0 hz1 hz2 rfl (by omega) _ k _ (by rfl) ((hown.alloc _)) ⟨wr.heap.size, 0, none⟩ 1 1 [.int .i64 (k * len / N), .int .i64 ((k + 1) * len / N), .int .i64 up] (by rfl) rfl ?_ ?_ (by omega) ?_ ?_ ?_ (wr.heap.size + 1) ?_ ?_)
          · exact World.news_of_block (new1 wr _)
          · intro u hu; simp at hu; rcases hu with rfl | rfl | rfl <;> rfl
          · unfold maxLen; omega
          · omega
          · simp; omega
          · simp
          · intro g cap w1 hown1 hgrow hat hlt1
            rw [← hn.out] at hown1
            have hlo := hown.lt
            go_wp2
            go_roundw
            case rel => exact ⟨k + 1, by omega, by go_num, hown1, (hbel.alloc hs _).grown hgrow (by simp; omega) (fun j hj => (hlo j hj).1)⟩
            case measure => simp [intOf]; omega
      · obtain rfl : k = N := by omega
        obtain ⟨g, cap, rfl, _, _⟩ := hown.form (by omega)
        go_wp2
        go_ret2
        exact ⟨g, cap, rfl, hown, hbel⟩
end Go.Proofs.Ytaklcnhenapckaa
