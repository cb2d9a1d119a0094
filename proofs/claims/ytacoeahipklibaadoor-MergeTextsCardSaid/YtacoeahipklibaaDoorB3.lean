/- unique and distinct: a list without its repetitions. -/
import Derived.Test.YtacoeahipklibaaDoorB2
import Derived.Laws.OwnMore
import Derived.OwnWalk
namespace Go.Proofs.YtacoeahipklibaaDoor
open Go.RowKit Go.Maps

/-- The cells of ids. -/
def cellsI (l : List Id) : List Value := l.flatMap encId
theorem cellsI_snoc (l : List Id) (x : Id) : cellsI (l ++ [x]) = cellsI l ++ encId x := by simp [cellsI]
theorem cellsI_len (l : List Id) : (cellsI l).length = l.length * 2 := by
  induction l with
  | nil => rfl
  | cons x l ih => simp [cellsI, encId] at *; omega
theorem cellsI_get : ∀ (l : List Id) (k j : Nat), k < l.length → j < 2 → (cellsI l)[k * 2 + j]? = (encId (ith l k))[j]?
  | x :: l, 0, j, _, hj => by
    have : cellsI (x :: l) = encId x ++ cellsI l := rfl
    rw [this, List.getElem?_append_left (by simp [encId]; omega)]
    simp [ith]
  | x :: l, k + 1, j, hk, hj => by
    have : cellsI (x :: l) = encId x ++ cellsI l := rfl
    rw [this, List.getElem?_append_right (by simp [encId]; omega)]
    have e : (k + 1) * 2 + j - (encId x).length = k * 2 + j := by simp [encId]; omega
    rw [e, cellsI_get l k j (by simpa using hk) hj]
    rfl
theorem info30 : (Tryd.prog.info? 30).map (fun i => (i.zero, i.size, i.bytes)) = some (some (.agg #[.int .i64 0, .int .i64 0]), 2, 16) := by kernel_rfl

/-- A slice of the call's own that holds these ids. -/
abbrev OwnI (w : World) (base : Nat) (v : Value) (l : List Id) : Prop := w.ownsRow base 30 2 v l.length (cellsI l)
theorem OwnI.slice {w : World} {base : Nat} {v : Value} {l : List Id} (h : OwnI w base v l) : ∃ A cap, v = .slice A l.length cap ∧ SlI w A l := by
  by_cases h0 : 0 < l.length
  · obtain ⟨g, cap, rfl, _, _⟩ := h.form h0
    have hl := h.lt g rfl
    refine ⟨_, _, rfl, .inr ⟨h0, g, 0, rfl, hl.2, fun k hk => ⟨?_, ?_⟩⟩⟩
    · have := cellsI_get l k 0 hk (by omega)
      rw [Nat.zero_add, h.cellAt _ (by omega)]; exact this
    · have := cellsI_get l k 1 hk (by omega)
      rw [Nat.zero_add, h.cellAt _ (by omega)]; exact this
  · obtain rfl : l = [] := List.eq_nil_of_length_eq_zero (by omega)
    rcases h.2 with ⟨rfl, _⟩ | ⟨g, cap, cur, rfl, _⟩
    · exact ⟨_, _, rfl, .inl rfl⟩
    · exact ⟨_, _, rfl, .inl rfl⟩

/-- What a callee hands back: a slice of these ids. -/
def RetI (w w' : World) (r : Ending) (l : List Id) : Prop := (∃ A cap, r = .returned (.slice A l.length cap) ∧ SlI w' A l) ∧ Below w.heap.size w w'

theorem seen_step (l : List Id) (k : Nat) : (fun y => if y = ith l k then true else decide (y ∈ dd l k)) = fun y => decide (y ∈ dd l (k + 1)) := by
  funext y
  rw [dd_succ]
  by_cases e : y = ith l k
  · subst e
    rw [if_pos rfl]
    split
    · rename_i h; exact (decide_eq_true h).symm
    · exact (decide_eq_true (List.mem_append.2 (.inr (List.mem_singleton.2 rfl)))).symm
  · rw [if_neg e]
    split
    · rfl
    · refine decide_eq_decide.2 ?_
      rw [List.mem_append, List.mem_singleton]
      exact ⟨.inl, fun h => h.resolve_right e⟩

theorem new2D (w : World) (a b : Obj) : ((w.alloc a).alloc b).heap[w.heap.size + 1]? = some b := by
  have h := heap_alloc_new (w.alloc a) b
  rw [World.size_alloc] at h
  exact h

theorem unique0 (A : Option Addr) (c : Nat) (w : World) : Calls Tryd.prog 16 #[.slice A 0 c] w fun r w' => RetI w w' r (uniq []) := by
  have hmm := @run_makeMap Tryd.prog
  go_enter Tryd.func16, Tryd.ntmps16
  go_wp2_with fail
  go_loopw [4, 10] (fun out i wr => out = .slice none 0 0 ∧ i = .int .i64 0 ∧ Below w.heap.size w wr) (fun _ _ _ => 0)
  case atStart => exact ⟨rfl, rfl, (Below.refl _ w).alloc (Nat.le_refl _) _⟩
  case round =>
    obtain ⟨rfl, rfl, hb⟩ := hrel
    go_wp2_with fail
    go_ret
    exact ⟨⟨none, 0, rfl, .inl rfl⟩, hb⟩

set_option maxHeartbeats 4000000 in
theorem unique1 (b off c : Nat) (l : List Id) (w : World) (hl : l.length ≤ 1000) (hb : b < w.heap.size) (h : RdI w b off l) :
    Calls Tryd.prog 16 #[.slice (some ⟨b, off, none⟩) l.length c] w fun r w' => RetI w w' r (uniq l) := by
  unfold uniq
  generalize hn : l.length = n at *
  obtain ⟨i0, hi, hz0, hz1, hz2⟩ := info_parts info30
  have hi := Lib.hid hi
  have hmm := @run_makeMap Tryd.prog
  go_enter Tryd.func16, Tryd.ntmps16
  go_wp2_with fail
  go_loopw [4, 10] (fun out i wr => ∃ k : Nat, k ≤ n ∧ i = .int .i64 k ∧ OwnI wr (w.heap.size + 1) out (dd l k) ∧ MB wr w.heap.size k (fun y => decide (y ∈ dd l k)) ∧ Below w.heap.size w wr ∧ w.heap.size < wr.heap.size) (fun _ i _ => n - (intOf i).toNat)
  case atStart => exact ⟨0, by omega, rfl, World.ownsRow_nil _ _ _ _, by simpa [dd] using MB.made w, (Below.refl _ w).alloc (Nat.le_refl _) _, by simp⟩
  case round =>
    obtain ⟨k, hk, rfl, hown, hMB, hB, hz⟩ := hrel
    by_cases hlt : k < n
    · obtain ⟨r0, r1⟩ := h.below hB hb k (by omega)
      have hlen := dd_len l k
      have hst := Lib.hid (seen_step l k)
      have hMB1 := hMB.alloc (.cells #[.int .i64 (ith l k).s, .int .i64 (ith l k).n] 30)
      by_cases hin : ith l k ∈ dd l k
      · have e1 : decide (ith l k ∈ dd l k) = true := decide_eq_true hin
        have e2 := Lib.hid (show dd l (k + 1) = dd l k by rw [dd_succ, if_pos hin])
        clear hin
        generalize hx : ith l k = x at *
        go_wp2_with (first | (at_lookup; refine wpList_lookMB _ rfl _ _ rfl w.heap.size k _ x rfl hMB1 rfl ?_; rw [e1]) | (at_mapUpdate; refine wpList_putMB _ rfl _ _ _ rfl w.heap.size k _ x rfl hMB1 (by unfold maxLen; omega) rfl rfl ?_; intro w1 hMB2 hgrow))
        go_roundw
        case rel =>
          have hs := hgrow.size
          rw [World.size_alloc] at hs
          refine ⟨k + 1, by omega, by go_num, ?_, by rw [hst.out] at hMB2; exact hMB2, (hB.alloc (by omega) _).grown hgrow (by simp; omega) (fun j hj => by cases hj; exact Nat.le_refl _), by omega⟩
          rw [e2.out]
          exact (hown.alloc _).kept hgrow (.inr fun e => by have := (hown.lt _ e).1; omega)
        case measure => simp [intOf]; omega
      · have e1 : decide (ith l k ∈ dd l k) = false := decide_eq_false hin
        have e2 := Lib.hid (show dd l (k + 1) = dd l k ++ [ith l k] by rw [dd_succ, if_neg hin])
        clear hin
        generalize hx : ith l k = x at *
        go_wp2_with (first | (at_lookup; refine wpList_lookMB _ rfl _ _ rfl w.heap.size k _ x rfl hMB1 rfl ?_; rw [e1]) | (at_builtin; refine wpList_append_lies _ rfl _ _ _ rfl (w.heap.size + 1) 30 i0 (.agg #[.int .i64 0, .int .i64 0]) 2 16 Tryd.underlying22 hi.out hz0 hz1 hz2 rfl (by omega) _ _ _ (by rfl) ((hown.alloc _).alloc _) ⟨wr.heap.size + 1, 0, none⟩ 1 1 (encId x) (by rfl) rfl ?_ ?_ (by omega) ?_ ?_ ?_ (wr.heap.size + 2) ?_ ?_))
        · exact World.news_of_block (new2D wr _ _)
        · intro u hu; simp [encId] at hu; rcases hu with rfl | rfl <;> rfl
        · unfold maxLen; omega
        · omega
        · simp; omega
        · simp
        · intro g cap w1 hown1 hgrow hat hlt1
          have hlo := hown.lt
          have hs := hgrow.size
          rw [World.size_alloc, World.size_alloc] at hs
          have y0 : w1.cell? ⟨wr.heap.size, 0, none⟩ = some (.int .i64 x.s) := (hgrow.cell_far ⟨wr.heap.size, 0, none⟩ (by simp; omega) (fun e => by have := (hlo _ e.symm).2; simp at this)).trans (by simp [go_sem])
          have y1 : w1.cell? ⟨wr.heap.size, 1, none⟩ = some (.int .i64 x.n) := (hgrow.cell_far ⟨wr.heap.size, 1, none⟩ (by simp; omega) (fun e => by have := (hlo _ e.symm).2; simp at this)).trans (by simp [go_sem])
          have hMB2 := (hMB1.alloc (.cells #[.int .i64 x.s, .int .i64 x.n] 30)).kept hgrow (fun e => by have := (hlo _ e.symm).1; omega)
          have hB2 := ((hB.alloc (by omega) (.cells #[.int .i64 x.s, .int .i64 x.n] 30)).alloc (by simp; omega) (.cells #[.int .i64 x.s, .int .i64 x.n] 30)).grown hgrow (by simp; omega) (fun j hj => by have := (hlo j hj).1; omega)
          go_wp2_with (at_mapUpdate; refine wpList_putMB _ rfl _ _ _ rfl w.heap.size k _ x rfl hMB2 (by unfold maxLen; omega) rfl rfl ?_; intro w2 hMB3 hgrow2)
          go_roundw
          case rel =>
            have hs2 := hgrow2.size
            refine ⟨k + 1, by omega, by go_num, ?_, by rw [hst.out] at hMB3; exact hMB3, hB2.grown hgrow2 (by omega) (fun j hj => by cases hj; exact Nat.le_refl _), by omega⟩
            have e3 : (dd l (k + 1)).length = (dd l k).length + 1 := by rw [e2.out]; simp
            show World.ownsRow _ _ _ _ _ (dd l (k + 1)).length (cellsI (dd l (k + 1)))
            rw [e3, e2.out, cellsI_snoc]
            exact hown1.kept hgrow2 (.inr fun e => by have := (hown1.lt _ e).1; omega)
          case measure => simp [intOf]; omega
    · obtain rfl : k = n := by omega
      obtain ⟨A, cap, rfl, hsl⟩ := hown.slice
      go_wp2_with fail
      go_ret
      exact ⟨⟨A, cap, rfl, hsl⟩, hB⟩
end Go.Proofs.YtacoeahipklibaaDoor
