/- The model's distinct. -/
import Derived.Test.YtacoeahipklibaaDoorB3
namespace Go.Proofs.YtacoeahipklibaaDoor
open Go.RowKit

theorem OwnI.form' {w : World} {base : Nat} {v : Value} {l : List Id} (h : OwnI w base v l) : ∃ A cap, v = .slice A l.length cap := by
  obtain ⟨A, cap, e, _⟩ := h.slice; exact ⟨A, cap, e⟩
/-- An own row stays while only new blocks are made. -/
theorem OwnI.below {w w' : World} {base : Nat} {v : Value} {l : List Id} (h : OwnI w base v l) (hb : Below w.heap.size w w') : OwnI w' base v l :=
  h.kept (row := none) ⟨hb.os, hb.tape, hb.output, hb.size, fun i hi _ => hb.block i hi⟩ (by cases v.ownBlock <;> simp)

theorem distinct0 (A : Option Addr) (c : Nat) (w : World) : Calls Tryd.prog 10 #[.slice A 0 c] w fun r w' => RetI w w' r (uniq []) := by
  go_enter Tryd.func10, Tryd.ntmps10
  go_wp2_with fail
  go_loopw [3, 4] (fun out i wr => out = .slice none 0 0 ∧ i = .int .i64 0 ∧ Below w.heap.size w wr) (fun _ _ _ => 0)
  case atStart => exact ⟨rfl, rfl, Below.refl _ w⟩
  case round =>
    obtain ⟨rfl, rfl, hb⟩ := hrel
    go_wp2_with fail
    go_ret
    exact ⟨⟨none, 0, rfl, .inl rfl⟩, hb⟩

set_option maxHeartbeats 4000000 in
theorem distinct1 (b off c : Nat) (l : List Id) (w : World) (hl : l.length ≤ 1000) (hb : b < w.heap.size) (h : RdI w b off l) :
    Calls Tryd.prog 10 #[.slice (some ⟨b, off, none⟩) l.length c] w fun r w' => RetI w w' r (uniq l) := by
  unfold uniq
  generalize hn : l.length = n at *
  obtain ⟨i0, hi, hi0, hi1, hi2⟩ := info_parts info30
  have hi := Lib.hid hi
  go_enter Tryd.func10, Tryd.ntmps10
  go_wp2_with fail
  go_loopw [3, 4] (fun out i wr => ∃ k : Nat, k ≤ n ∧ i = .int .i64 k ∧ OwnI wr w.heap.size out (dd l k) ∧ Below w.heap.size w wr) (fun _ i _ => n - (intOf i).toNat)
  case atStart => exact ⟨0, by omega, rfl, World.ownsRow_nil _ _ _ _, Below.refl _ w⟩
  case round =>
    obtain ⟨k, hk, rfl, hown, hB⟩ := hrel
    have hz := hB.size
    obtain ⟨A, cap, rfl, hsl⟩ := hown.slice
    by_cases hlt : k < n
    · obtain ⟨r0, r1⟩ := h.below hB hb k (by omega)
      have hlen := dd_len l k
      have hx := indexC A cap (dd l k) (ith l k) wr (by omega) hsl
      by_cases hin : ith l k ∈ dd l k
      · have e1 : decide (idx (dd l k) (ith l k) < 0) = false := decide_eq_false (by have := idx_nonneg.2 hin; omega)
        have e2 := Lib.hid (show dd l (k + 1) = dd l k by rw [dd_succ, if_pos hin])
        clear hin
        go_wp2_with fail
        refine hx.mono ?_
        rintro e w1 ⟨rfl, hb1⟩
        have hz1 := hb1.size
        go_wp2_with fail
        go_roundw
        case rel => exact ⟨k + 1, by omega, by go_num, by rw [e2.out]; exact hown.below hb1, hB.trans (hb1.mono hz)⟩
        case measure => simp [intOf]; omega
      · have e1 : decide (idx (dd l k) (ith l k) < 0) = true := decide_eq_true (by have := mt idx_nonneg.1 hin; omega)
        have e2 := Lib.hid (show dd l (k + 1) = dd l k ++ [ith l k] by rw [dd_succ, if_neg hin])
        clear hin
        go_wp2_with fail
        refine hx.mono ?_
        rintro e w1 ⟨rfl, hb1⟩
        have hB1 := hB.trans (hb1.mono hz)
        have hz1 := hB1.size
        obtain ⟨r0, r1⟩ := h.below hB1 hb k (by omega)
        have hown1 := hown.below hb1
        clear hx
        generalize hx : ith l k = x at *
        go_wp2_with (at_builtin; refine wpList_append_lies _ rfl _ _ _ rfl w.heap.size 30 i0 (.agg #[.int .i64 0, .int .i64 0]) 2 16 Tryd.underlying22 hi.out hi0 hi1 hi2 rfl (by omega) _ _ _ (by rfl) (hown1.alloc _) ⟨w1.heap.size, 0, none⟩ 1 1 (encId x) (by rfl) rfl ?_ ?_ (by omega) ?_ ?_ ?_ (w1.heap.size + 1) ?_ ?_)
        · exact World.news_of_block (heap_alloc_new w1 _)
        · intro u hu; simp [encId] at hu; rcases hu with rfl | rfl <;> rfl
        · unfold maxLen; omega
        · omega
        · simp; omega
        · simp
        · intro g cap w2 hown2 hgrow hat hlt1
          have hlo := hown1.lt
          go_wp2_with fail
          go_roundw
          case rel =>
            have e3 : (dd l (k + 1)).length = (dd l k).length + 1 := by rw [e2.out]; simp
            refine ⟨k + 1, by omega, by go_num, ?_, (hB1.alloc hz1 _).grown hgrow (by simp; omega) (fun j hj => (hlo j hj).1)⟩
            show World.ownsRow _ _ _ _ _ (dd l (k + 1)).length (cellsI (dd l (k + 1)))
            rw [e3, e2.out, cellsI_snoc]
            exact hown2
          case measure => simp [intOf]; omega
    · obtain rfl : k = n := by omega
      go_wp2_with fail
      go_ret
      exact ⟨⟨A, cap, rfl, hsl⟩, hB⟩

theorem uniqueC (A : Option Addr) (c : Nat) (l : List Id) (w : World) (hl : l.length ≤ 1000) (h : SlI w A l) : Calls Tryd.prog 16 #[.slice A l.length c] w fun r w' => RetI w w' r (uniq l) := by
  rcases h with rfl | ⟨h0, b, off, rfl, hb, hr⟩
  · exact unique0 A c w
  · exact unique1 b off c l w hl hb hr
theorem distinctC (A : Option Addr) (c : Nat) (l : List Id) (w : World) (hl : l.length ≤ 1000) (h : SlI w A l) : Calls Tryd.prog 10 #[.slice A l.length c] w fun r w' => RetI w w' r (uniq l) := by
  rcases h with rfl | ⟨h0, b, off, rfl, hb, hr⟩
  · exact distinct0 A c w
  · exact distinct1 b off c l w hl hb hr
end Go.Proofs.YtacoeahipklibaaDoor
