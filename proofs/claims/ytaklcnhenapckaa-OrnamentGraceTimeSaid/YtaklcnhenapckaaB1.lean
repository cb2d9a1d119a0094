/- Contracts: trill. -/
import Derived.Test.YtaklcnhenapckaaA6
import Derived.RegionTactic
import Derived.ChangeAlike
import Derived.BigRegion
import Derived.Deep.AppendLies
namespace Go.Proofs.Ytaklcnhenapckaa
open Go.RowKit

/-- The cells of notes. -/
def cellsN (l : List (Int × Int × Int)) : List Value := l.flatMap fun x => [.int .i64 x.1, .int .i64 x.2.1, .int .i64 x.2.2]
theorem cellsN_snoc (l : List (Int × Int × Int)) (a b c : Int) : cellsN (l ++ [(a, b, c)]) = cellsN l ++ [.int .i64 a, .int .i64 b, .int .i64 c] := by simp [cellsN]
theorem cellsN_len (l : List (Int × Int × Int)) : (cellsN l).length = l.length * 3 := by
  induction l with
  | nil => rfl
  | cons x l ih => simp [cellsN] at ih ⊢; omega

def trillN (len : Int) : Int := if min (len / 30240) 511 % 2 = 0 then min (len / 30240) 511 - 1 else min (len / 30240) 511
def noteAt (len up n k : Int) : Int × Int × Int := (k * len / n, (k + 1) * len / n, if k % 2 = 1 then up else 0)
def notesTo (len up n : Int) (k : Nat) : List (Int × Int × Int) := (List.range k).map fun (j : Nat) => noteAt len up n (j : Int)
theorem notesTo_succ (len up n : Int) (k : Nat) : notesTo len up n (k + 1) = notesTo len up n k ++ [noteAt len up n k] := by simp [notesTo, List.range_succ]
theorem notesTo_len (len up n : Int) (k : Nat) : (notesTo len up n k).length = k := by simp [notesTo]

theorem notes_odd (len up : Int) (N k : Nat) (h : ((k : Int) % 2 == 1) = true) : cellsN (notesTo len up N (k + 1)) = cellsN (notesTo len up N k) ++ [.int .i64 (k * len / N), .int .i64 ((k + 1) * len / N), .int .i64 up] := by
  rw [notesTo_succ, noteAt, cellsN_snoc, if_pos (by simpa using h)]
theorem notes_even (len up : Int) (N k : Nat) (h : ((k : Int) % 2 == 1) = false) : cellsN (notesTo len up N (k + 1)) = cellsN (notesTo len up N k) ++ [.int .i64 (k * len / N), .int .i64 ((k + 1) * len / N), .int .i64 0] := by
  rw [notesTo_succ, noteAt, cellsN_snoc, if_neg (by simpa using h)]

theorem new2 (w : World) (a b : Obj) : (((w.alloc a).alloc b).drew).heap[w.heap.size + 1]? = some b := by
  have h := heap_alloc_new (w.alloc a) b
  rw [World.size_alloc] at h
  exact h

theorem info36 : (Try.prog.info? 36).map (fun i => (i.zero, i.size, i.bytes)) = some (some (.agg #[.int .i64 0, .int .i64 0, .int .i64 0]), 3, 24) := by kernel_rfl

theorem trillN_bd (len : Int) (h1 : 1 ≤ len) (h2 : len ≤ 4398046511104) : -1 ≤ trillN len ∧ trillN len ≤ 511 := by unfold trillN; split <;> omega

set_option maxHeartbeats 1000000 in
theorem trillShort (len up : Int) (w : World) (h1 : 1 ≤ len) (h2 : len ≤ 4398046511104) (h3 : trillN len < 3) :
    Calls Try.prog 28 #[.int .i64 len, .int .i64 up] w fun e w' => e = .returned (.slice none 0 0) ∧ w = w' := by
  unfold trillN at h3
  by_cases g1 : len / 30240 < 511
  · by_cases g2 : len / 30240 % 2 = 0
    · have h4 : len / 30240 - 1 < 3 := by rw [show min (len / 30240) 511 = len / 30240 by omega, if_pos g2] at h3; omega
      have h5 : (len / 30240 % 2 == 0) = true := by simpa using g2
      clear h3 g2
      go_enter Try.func28, Try.ntmps28
      go_wp2_with fail
      go_ret
      exact ⟨rfl, rfl⟩
    · have h4 : len / 30240 < 3 := by rw [show min (len / 30240) 511 = len / 30240 by omega, if_neg g2] at h3; omega
      have h5 : (len / 30240 % 2 == 0) = false := by simpa using g2
      clear h3 g2
      go_enter Try.func28, Try.ntmps28
      go_wp2_with fail
      go_ret
      exact ⟨rfl, rfl⟩
  · exfalso
    rw [show min (len / 30240) 511 = 511 by omega] at h3
    simp at h3
    
set_option maxRecDepth 100000 in
set_option maxHeartbeats 4000000 in
theorem trillLong (len up : Int) (w : World) (h1 : 1 ≤ len) (h2 : len ≤ 4398046511104) (N : Nat) (hN : trillN len = N) (h3 : 3 ≤ N) :
    Calls Try.prog 28 #[.int .i64 len, .int .i64 up] w fun e w' => ∃ g cap, e = .returned (.slice (some ⟨g, 0, none⟩) N cap) ∧ w'.ownsRow w.heap.size 36 3 (.slice (some ⟨g, 0, none⟩) N cap) N (cellsN (notesTo len up N N)) ∧ Below w.heap.size w w' := by
  have hN2 : (N : Int) ≤ 511 := by have := trillN_bd len h1 h2; omega
  have hc : (511 < len / 30240 ∧ N = 511) ∨ (len / 30240 ≤ 511 ∧ (len / 30240 % 2 == 0) = false ∧ len / 30240 = N) ∨ (len / 30240 ≤ 511 ∧ (len / 30240 % 2 == 0) = true ∧ len / 30240 = N + 1) := by
    unfold trillN at hN
    by_cases g1 : len / 30240 ≤ 511
    · rw [show min (len / 30240) 511 = len / 30240 by omega] at hN
      by_cases g2 : len / 30240 % 2 = 0
      · rw [if_pos g2] at hN; exact .inr (.inr ⟨g1, by simpa using g2, by omega⟩)
      · rw [if_neg g2] at hN; exact .inr (.inl ⟨g1, by simpa using g2, by omega⟩)
    · rw [show min (len / 30240) 511 = 511 by omega] at hN
      simp at hN; exact .inl ⟨by omega, by omega⟩
  clear hN
  have hp : Hid (∀ k : Nat, k ≤ N → 0 ≤ (k : Int) * len ∧ (k : Int) * len ≤ 511 * 4398046511104) := fun k hk => mul_bd (by omega) (by omega) (by omega) h2
  obtain ⟨i0, hi, hz0, hz1, hz2⟩ := info_parts info36
  have hi := Lib.hid hi
  have h3' : decide ((N : Int) < 3) = false := by simp; omega
  rcases hc with ⟨c1, rfl⟩ | ⟨c1, c2, c3⟩ | ⟨c1, c2, c3⟩
  · go_enter Try.func28, Try.ntmps28
    go_wp2_with fail
    go_loopw [6, 20] (fun out i wr => ∃ k : Nat, k ≤ 511 ∧ i = .int .i64 k ∧ wr.ownsRow w.heap.size 36 3 out k (cellsN (notesTo len up 511 k)) ∧ Below w.heap.size w wr) (fun _ i _ => 511 - (intOf i).toNat)
    case atStart => exact ⟨0, by omega, rfl, World.ownsRow_nil _ _ _ _, Below.refl _ _⟩
    case round =>
      obtain ⟨k, hk, rfl, hown, hbel⟩ := hrel
      clear c1
      by_cases hlt : k < 511
      · have hp1 := hp.out k (by omega)
        have hp2 := hp.out (k + 1) (by omega)
        have hp2 : 0 ≤ ((k : Int) + 1) * len ∧ ((k : Int) + 1) * len ≤ 511 * 4398046511104 := hp2
        have hs := hbel.size
        cases hpar : ((k : Int) % 2 == 1)
        · have hn := Lib.hid (show cellsN (notesTo len up 511 (k + 1)) = cellsN (notesTo len up 511 k) ++ [.int .i64 (k * len / 511), .int .i64 ((k + 1) * len / 511), .int .i64 0] from notes_even len up 511 k hpar)
          go_wp2_with fail
          go_region
          go_wp2_with (at_builtin; refine wpList_append_lies _ rfl _ _ _ rfl w.heap.size 36 i0 (.agg #[.int .i64 0, .int .i64 0, .int .i64 0]) 3 24 Try.underlying30 hi.out hz0 hz1 hz2 rfl (by omega) _ k _ (by rfl) (((hown.alloc _).alloc _).drew) ⟨wr.heap.size + 1, 0, none⟩ 1 1 [.int .i64 (k * len / 511), .int .i64 ((k + 1) * len / 511), .int .i64 0] (by rfl) rfl ?_ ?_ (by omega) ?_ ?_ ?_ (wr.heap.size + 2) ?_ ?_)
          · exact World.news_of_block (new2 wr _ _)
          · intro u hu; simp at hu; rcases hu with rfl | rfl | rfl <;> rfl
          · unfold maxLen; omega
          · omega
          · simp; omega
          · simp
          · intro g cap w1 hown1 hgrow hat hlt1
            rw [← hn.out] at hown1
            have hlo := hown.lt
            go_wp2
            go_roundw
            case rel => exact ⟨k + 1, by omega, by go_num, hown1, (((hbel.alloc hs _).alloc (by simp; omega) _).drew).grown hgrow (by simp; omega) (fun j hj => (hlo j hj).1)⟩
            case measure => simp [intOf]; omega
        · have hn := Lib.hid (show cellsN (notesTo len up 511 (k + 1)) = cellsN (notesTo len up 511 k) ++ [.int .i64 (k * len / 511), .int .i64 ((k + 1) * len / 511), .int .i64 up] from notes_odd len up 511 k hpar)
          go_wp2_with fail
          go_region
          go_wp2_with (at_builtin; refine wpList_append_lies _ rfl _ _ _ rfl w.heap.size 36 i0 (.agg #[.int .i64 0, .int .i64 0, .int .i64 0]) 3 24 Try.underlying30 hi.out hz0 hz1 hz2 rfl (by omega) _ k _ (by rfl) (((hown.alloc _).alloc _).drew) ⟨wr.heap.size + 1, 0, none⟩ 1 1 [.int .i64 (k * len / 511), .int .i64 ((k + 1) * len / 511), .int .i64 up] (by rfl) rfl ?_ ?_ (by omega) ?_ ?_ ?_ (wr.heap.size + 2) ?_ ?_)
          · exact World.news_of_block (new2 wr _ _)
          · intro u hu; simp at hu; rcases hu with rfl | rfl | rfl <;> rfl
          · unfold maxLen; omega
          · omega
          · simp; omega
          · simp
          · intro g cap w1 hown1 hgrow hat hlt1
            rw [← hn.out] at hown1
            have hlo := hown.lt
            go_wp2
            go_roundw
            case rel => exact ⟨k + 1, by omega, by go_num, hown1, (((hbel.alloc hs _).alloc (by simp; omega) _).drew).grown hgrow (by simp; omega) (fun j hj => (hlo j hj).1)⟩
            case measure => simp [intOf]; omega
      · obtain rfl : k = 511 := by omega
        obtain ⟨g, cap, rfl, _, _⟩ := hown.form (by omega)
        go_wp2
        go_ret
        exact ⟨g, cap, rfl, hown, hbel⟩
  · have c4 : (((N : Int)) % 2 == 0) = false := by rw [← c3]; exact c2
    clear c2
    go_enter Try.func28, Try.ntmps28
    go_wp2_with fail
    go_loopw [6, 20] (fun out i wr => ∃ k : Nat, k ≤ N ∧ i = .int .i64 k ∧ wr.ownsRow w.heap.size 36 3 out k (cellsN (notesTo len up N k)) ∧ Below w.heap.size w wr) (fun _ i _ => N - (intOf i).toNat)
    case atStart => exact ⟨0, by omega, rfl, World.ownsRow_nil _ _ _ _, Below.refl _ _⟩
    case round =>
      obtain ⟨k, hk, rfl, hown, hbel⟩ := hrel
      clear c1 c3
      by_cases hlt : k < N
      · have hp1 := hp.out k (by omega)
        have hp2 := hp.out (k + 1) (by omega)
        have hp2 : 0 ≤ ((k : Int) + 1) * len ∧ ((k : Int) + 1) * len ≤ 511 * 4398046511104 := hp2
        have hs := hbel.size
        cases hpar : ((k : Int) % 2 == 1)
        · have hn := Lib.hid (notes_even len up N k hpar)
          go_wp2_with fail
          go_region
          go_wp2_with (at_builtin; refine wpList_append_lies _ rfl _ _ _ rfl w.heap.size 36 i0 (.agg #[.int .i64 0, .int .i64 0, .int .i64 0]) 3 24 Try.underlying30 hi.out hz0 hz1 hz2 rfl (by omega) _ k _ (by rfl) (((hown.alloc _).alloc _).drew) ⟨wr.heap.size + 1, 0, none⟩ 1 1 [.int .i64 (k * len / N), .int .i64 ((k + 1) * len / N), .int .i64 0] (by rfl) rfl ?_ ?_ (by omega) ?_ ?_ ?_ (wr.heap.size + 2) ?_ ?_)
          · exact World.news_of_block (new2 wr _ _)
          · intro u hu; simp at hu; rcases hu with rfl | rfl | rfl <;> rfl
          · unfold maxLen; omega
          · omega
          · simp; omega
          · simp
          · intro g cap w1 hown1 hgrow hat hlt1
            rw [← hn.out] at hown1
            have hlo := hown.lt
            go_wp2
            go_roundw
            case rel => exact ⟨k + 1, by omega, by go_num, hown1, (((hbel.alloc hs _).alloc (by simp; omega) _).drew).grown hgrow (by simp; omega) (fun j hj => (hlo j hj).1)⟩
            case measure => simp [intOf]; omega
        · have hn := Lib.hid (notes_odd len up N k hpar)
          go_wp2_with fail
          go_region
          go_wp2_with (at_builtin; refine wpList_append_lies _ rfl _ _ _ rfl w.heap.size 36 i0 (.agg #[.int .i64 0, .int .i64 0, .int .i64 0]) 3 24 Try.underlying30 hi.out hz0 hz1 hz2 rfl (by omega) _ k _ (by rfl) (((hown.alloc _).alloc _).drew) ⟨wr.heap.size + 1, 0, none⟩ 1 1 [.int .i64 (k * len / N), .int .i64 ((k + 1) * len / N), .int .i64 up] (by rfl) rfl ?_ ?_ (by omega) ?_ ?_ ?_ (wr.heap.size + 2) ?_ ?_)
          · exact World.news_of_block (new2 wr _ _)
          · intro u hu; simp at hu; rcases hu with rfl | rfl | rfl <;> rfl
          · unfold maxLen; omega
          · omega
          · simp; omega
          · simp
          · intro g cap w1 hown1 hgrow hat hlt1
            rw [← hn.out] at hown1
            have hlo := hown.lt
            go_wp2
            go_roundw
            case rel => exact ⟨k + 1, by omega, by go_num, hown1, (((hbel.alloc hs _).alloc (by simp; omega) _).drew).grown hgrow (by simp; omega) (fun j hj => (hlo j hj).1)⟩
            case measure => simp [intOf]; omega
      · obtain rfl : k = N := by omega
        obtain ⟨g, cap, rfl, _, _⟩ := hown.form (by omega)
        go_wp2
        go_ret
        exact ⟨g, cap, rfl, hown, hbel⟩
  · have c4 : (((N : Int) + 1) % 2 == 0) = true := by rw [← c3]; exact c2
    clear c2
    go_enter Try.func28, Try.ntmps28
    go_wp2_with fail
    go_loopw [6, 20] (fun out i wr => ∃ k : Nat, k ≤ N ∧ i = .int .i64 k ∧ wr.ownsRow w.heap.size 36 3 out k (cellsN (notesTo len up N k)) ∧ Below w.heap.size w wr) (fun _ i _ => N - (intOf i).toNat)
    case atStart => exact ⟨0, by omega, rfl, World.ownsRow_nil _ _ _ _, Below.refl _ _⟩
    case round =>
      obtain ⟨k, hk, rfl, hown, hbel⟩ := hrel
      clear c1 c3
      by_cases hlt : k < N
      · have hp1 := hp.out k (by omega)
        have hp2 := hp.out (k + 1) (by omega)
        have hp2 : 0 ≤ ((k : Int) + 1) * len ∧ ((k : Int) + 1) * len ≤ 511 * 4398046511104 := hp2
        have hs := hbel.size
        cases hpar : ((k : Int) % 2 == 1)
        · have hn := Lib.hid (notes_even len up N k hpar)
          go_wp2_with fail
          go_region
          go_wp2_with (at_builtin; refine wpList_append_lies _ rfl _ _ _ rfl w.heap.size 36 i0 (.agg #[.int .i64 0, .int .i64 0, .int .i64 0]) 3 24 Try.underlying30 hi.out hz0 hz1 hz2 rfl (by omega) _ k _ (by rfl) (((hown.alloc _).alloc _).drew) ⟨wr.heap.size + 1, 0, none⟩ 1 1 [.int .i64 (k * len / N), .int .i64 ((k + 1) * len / N), .int .i64 0] (by rfl) rfl ?_ ?_ (by omega) ?_ ?_ ?_ (wr.heap.size + 2) ?_ ?_)
          · exact World.news_of_block (new2 wr _ _)
          · intro u hu; simp at hu; rcases hu with rfl | rfl | rfl <;> rfl
          · unfold maxLen; omega
          · omega
          · simp; omega
          · simp
          · intro g cap w1 hown1 hgrow hat hlt1
            rw [← hn.out] at hown1
            have hlo := hown.lt
            go_wp2
            go_roundw
            case rel => exact ⟨k + 1, by omega, by go_num, hown1, (((hbel.alloc hs _).alloc (by simp; omega) _).drew).grown hgrow (by simp; omega) (fun j hj => (hlo j hj).1)⟩
            case measure => simp [intOf]; omega
        · have hn := Lib.hid (notes_odd len up N k hpar)
          go_wp2_with fail
          go_region
          go_wp2_with (at_builtin; refine wpList_append_lies _ rfl _ _ _ rfl w.heap.size 36 i0 (.agg #[.int .i64 0, .int .i64 0, .int .i64 0]) 3 24 Try.underlying30 hi.out hz0 hz1 hz2 rfl (by omega) _ k _ (by rfl) (((hown.alloc _).alloc _).drew) ⟨wr.heap.size + 1, 0, none⟩ 1 1 [.int .i64 (k * len / N), .int .i64 ((k + 1) * len / N), .int .i64 up] (by rfl) rfl ?_ ?_ (by omega) ?_ ?_ ?_ (wr.heap.size + 2) ?_ ?_)
          · exact World.news_of_block (new2 wr _ _)
          · intro u hu; simp at hu; rcases hu with rfl | rfl | rfl <;> rfl
          · unfold maxLen; omega
          · omega
          · simp; omega
          · simp
          · intro g cap w1 hown1 hgrow hat hlt1
            rw [← hn.out] at hown1
            have hlo := hown.lt
            go_wp2
            go_roundw
            case rel => exact ⟨k + 1, by omega, by go_num, hown1, (((hbel.alloc hs _).alloc (by simp; omega) _).drew).grown hgrow (by simp; omega) (fun j hj => (hlo j hj).1)⟩
            case measure => simp [intOf]; omega
      · obtain rfl : k = N := by omega
        obtain ⟨g, cap, rfl, _, _⟩ := hown.form (by omega)
        go_wp2
        go_ret
        exact ⟨g, cap, rfl, hown, hbel⟩
end Go.Proofs.Ytaklcnhenapckaa
