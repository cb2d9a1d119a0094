/- slices.Clone once more; motif.Reverse, motif.Transpose, motif.Invert. -/
import Derived.Test.YteoghladllohjaaGreatDoorT13
namespace Go.Proofs.YteoghladllohjaaGreatDoor
open Go.RowKit Go.Shelf Go.Sort

set_option maxHeartbeats 2000000 in
theorem cloneO (A : Option Addr) (c : Nat) (l : List Tone) (w : World) (h0 : 0 < l.length) (hl : l.length ≤ 1000) (h : SlT w A l) :
    Calls Tryz.prog 22 #[.slice A l.length c] w fun e w' => ∃ g c', e = .returned (.slice (some ⟨g, 0, none⟩) l.length c') ∧ w'.ownsRow w.heap.size 35 5 (.slice (some ⟨g, 0, none⟩) l.length c') l.length (cellsT l) ∧ Below w.heap.size w w' := by
  obtain ⟨b, off, rfl, hb, hr⟩ := h.some h0
  obtain ⟨i0, hi, hi0, hi1, hi2⟩ := info_parts info40
  have hi := Lib.hid hi
  have q22 : ∀ (w : World) (a : Option Addr) (n c n' c' : Nat), (binOp .eql 22 (.slice a n c) (.slice none n' c')).run Tryz.prog w = .ok (.bool a.isNone) w := fun w a n c n' c' => Lib.run_eql_slice_nil w _ _ a n c n' c' Tryz.underlying22
  have hcl := Lib.hid (hr.below ((Below.refl _ w).alloc (Nat.le_refl _) (.cells #[] 35)) hb).cells
  have hlen := cellsT_len l
  have hone := cellsT_one l
  clear hr h
  generalize cellsT l = xs at *
  generalize hn : l.length = n at *
  go_enter Tryz.func22, Tryz.ntmps22
  go_wp2_with (at_builtin; refine wpList_append_lies _ rfl _ _ 22 rfl w.heap.size 35 i0 (.agg #[.int .i64 0, .int .i64 0, .int .i64 0, .int .i64 0, .bool false]) 5 40 Tryz.underlying22 hi.out hi0 hi1 hi2 rfl (by omega) _ _ _ (by rfl) (World.ownsRow_made w #[] 0 (Nat.le_refl _) (Nat.zero_le _) rfl) ⟨b, off, none⟩ n c xs (by rfl) hlen hcl.out hone h0 ?_ ?_ ?_ (w.heap.size + 1) ?_ ?_)
  · unfold maxLen; omega
  · omega
  · simp
  · simp
  · intro g cap w9 hown9 hgrow hat hlt1
    go_wp2_with fail
    go_ret
    have hown9' : w9.ownsRow w.heap.size 35 5 (.slice (some ⟨g, 0, none⟩) n cap) n xs := by simpa using hown9
    exact ⟨g, cap, by simp, hown9', ((Below.refl _ w).alloc (Nat.le_refl _) _).grown hgrow (by simp) (by intro k hk; simp [Value.ownBlock] at hk; omega)⟩
set_option maxHeartbeats 2000000 in
theorem cloneE (A : Option Addr) (c : Nat) (w : World) :
    Calls Tryz.prog 22 #[.slice A 0 c] w fun e w' => (∃ A' c', e = .returned (.slice A' 0 c')) ∧ Below w.heap.size w w' := by
  have q22 : ∀ (w : World) (a : Option Addr) (n c n' c' : Nat), (binOp .eql 22 (.slice a n c) (.slice none n' c')).run Tryz.prog w = .ok (.bool a.isNone) w := fun w a n c n' c' => Lib.run_eql_slice_nil w _ _ a n c n' c' Tryz.underlying22
  cases A with
  | none =>
    go_enter Tryz.func22, Tryz.ntmps22
    go_wp2_with fail
    go_ret
    exact ⟨⟨_, _, rfl⟩, Below.refl _ _⟩
  | some a =>
    go_enter Tryz.func22, Tryz.ntmps22
    go_wp2_with fail
    go_ret
    exact ⟨⟨_, _, rfl⟩, by go_grown⟩
theorem revE (A : Option Addr) (c : Nat) (w : World) : Calls Tryz.prog 23 #[.slice A 0 c] w fun e w' => e = .returned (.tuple #[]) ∧ Below w.heap.size w w' := by
  go_enter Tryz.func23, Tryz.ntmps23
  go_wp2_with fail
  go_loopw [2, 3] (fun i j wr => i = .int .i64 0 ∧ j = .int .i64 (-1) ∧ w = wr) (fun _ _ _ => 0)
  case atStart => exact ⟨rfl, by simp, rfl⟩
  case round =>
    obtain ⟨rfl, rfl, rfl⟩ := hrel
    go_wp2_with fail
    go_end0
    exact ⟨rfl, Below.refl _ _⟩
set_option maxHeartbeats 1000000 in
theorem reverseC (A : Option Addr) (c : Nat) (l : List Tone) (w : World) (hl : l.length ≤ 1000) (h : SlT w A l) :
    Calls Tryz.prog 7 #[.slice A l.length c] w fun e w' => (∃ A' c', e = .returned (.slice A' l.length c') ∧ SlT w' A' l.reverse) ∧ Below w.heap.size w w' := by
  by_cases h0 : 0 < l.length
  · have hc := cloneO A c l w h0 hl h
    have hr := fun g c' W ho hb => revC l g c' l.length w.heap.size W ho hb rfl h0 hl
    have hs : ∀ (W : World) g c', W.ownsRow w.heap.size 35 5 (.slice (some ⟨g, 0, none⟩) l.length c') l.length (cellsT l.reverse) → SlT W (some ⟨g, 0, none⟩) l.reverse := fun W g c' ho => by
      have ho : W.ownsRow w.heap.size 35 5 (.slice (some ⟨g, 0, none⟩) l.length c') l.reverse.length (cellsT l.reverse) := by rw [List.length_reverse]; exact ho
      obtain ⟨A', cap', e, hs⟩ := ownT_slice ho
      injection e with e1 _ _
      rw [e1]
      exact hs
    clear h
    have hl0 := cellsT_len l
    generalize hn : l.length = n at *
    have hn := Lib.hid hn
    go_enter Tryz.func7, Tryz.ntmps7
    go_wp2_with fail
    refine hc.mono ?_
    rintro e w1 ⟨g, c', rfl, ho, hb1⟩
    have hg := (ho.lt g rfl).1
    have hr1 := hr g c' w1 ho hg hb1.size
    clear hr ho hc
    go_wp2_with fail
    refine hr1.mono ?_
    rintro e w2 ⟨rfl, ho2, hb2⟩
    have hs2 := Lib.hid (hs w2 g c' ho2)
    clear hs ho2 hr1
    go_wp2_with fail
    go_ret
    exact ⟨⟨_, _, rfl, hs2.out⟩, hb1.trans hb2⟩
  · have h0 : l.length = 0 := by omega
    have hnil := List.eq_nil_of_length_eq_zero h0
    subst hnil
    have hc := cloneE A c w
    have hr := fun A' c' W => revE A' c' W
    show Calls Tryz.prog 7 #[.slice A 0 c] w fun e w' => (∃ A' c', e = .returned (.slice A' 0 c') ∧ SlT w' A' []) ∧ Below w.heap.size w w'
    clear h h0 hl
    go_enter Tryz.func7, Tryz.ntmps7
    go_wp2_with fail
    refine hc.mono ?_
    rintro e w1 ⟨⟨A', c', rfl⟩, hb1⟩
    go_wp2_with fail
    refine (hr _ _ _).mono ?_
    rintro e w2 ⟨rfl, hb2⟩
    go_wp2_with fail
    go_ret
    exact ⟨⟨_, _, rfl, .inl rfl⟩, hb1.trans (hb2.mono hb1.size)⟩
end Go.Proofs.YteoghladllohjaaGreatDoor
