/- stableCmpFunc, SortStableFunc, slices.Clone and perform.Sort at played notes: a row of at most 39 is sorted. -/
import Derived.Test.YtmbchdfgckmpoaaGreatS13
namespace Go.Proofs.YtmbchdfgckmpoaaGreat
open Go.RowKit Go.Sort

set_option maxHeartbeats 8000000 in
set_option maxRecDepth 20000 in
theorem stableC (L : List Ply) (g cap n base : Nat) (w : World) (hown : w.ownsRow base 30 7 (.slice (some ⟨g, 0, none⟩) n cap) n (cellsY L)) (hbase : base ≤ g) (hn : L.length = n) (h30 : n ≤ 39) (hbw : base ≤ w.heap.size) :
    Calls Tryz.prog 40 #[.slice (some ⟨g, 0, none⟩) n cap, .int .i64 n, .func (.func 9) #[] #[]] w fun r w' => r = .returned (.tuple #[]) ∧ ∃ L', Same 0 n L L' ∧ AscR L' 0 n ∧ w'.ownsRow base 30 7 (.slice (some ⟨g, 0, none⟩) n cap) n (cellsY L') ∧ Below base w w' := by
  have hi := fun (M : List Ply) (a b : Nat) v h1 h2 h3 h4 h5 => insC M g cap n a b base v h1 hbase h2 (by omega) h3 h4 h5
  have hs := symC g cap n base hbase (by omega) n
  by_cases h20 : n < 20
  · have hc := hi L 0 n w hown hn (by omega) (by omega) hbw
    have z1 : ¬ ((20 : Int) ≤ (n : Int)) := by omega
    have z2 : ¬ ((20 : Int) < (n : Int)) := by omega
    clear hi hs hown
    go_enter Tryz.func40, Tryz.ntmps40
    go_wp2_with fail
    refine wp_loop_rounds 1 ?_
    rw [rounds_succ]
    go_wp2_with fail
    refine hc.mono ?_
    rintro r w2 ⟨rfl, L', h1, h2, h3, h4⟩
    go_wp2_with fail
    refine wp_loop_rounds 1 ?_
    rw [rounds_succ]
    go_wp2_with fail
    go_end0
    exact ⟨rfl, L', h1, h2, h3, h4⟩
  · have hc := hi L 0 20 w hown hn (by omega) (by omega) hbw
    have z1 : ((20 : Int) ≤ (n : Int)) := by omega
    have z3 : ¬ ((40 : Int) ≤ (n : Int)) := by omega
    have z4 : ¬ ((40 : Int) < (n : Int)) := by omega
    have hi' := Lib.hid hi
    have hs' := Lib.hid hs
    clear hi hs hown
    go_enter Tryz.func40, Tryz.ntmps40
    go_wp2_with fail
    refine wp_loop_rounds 2 ?_
    rw [rounds_succ]
    go_wp2_with fail
    refine hc.mono ?_
    rintro r w2 ⟨rfl, M, h1, h2, h3, h4⟩
    clear hc
    have hMn : M.length = n := h1.length.trans hn
    have hbw2 : base ≤ w2.heap.size := Nat.le_trans hbw h4.size
    have hc := hi'.out M 20 n w2 h3 hMn (by omega) (by omega) hbw2
    have HX := Lib.hid (And.intro h1 h2)
    clear h1 h2 h3 hi'
    go_wp2_with fail
    rw [rounds_succ]
    go_wp2_with fail
    refine hc.mono ?_
    rintro r w3 ⟨rfl, M2, k1, k2, k3, k4⟩
    clear hc
    obtain ⟨h1, h2⟩ := HX.out
    have hM2n : M2.length = n := k1.length.trans hMn
    have hbw3 : base ≤ w3.heap.size := Nat.le_trans hbw2 k4.size
    have hS : Same 0 n L M2 := (h1.mono (by omega) (by omega)).trans (k1.mono (by omega) (by omega))
    have hA : AscR M2 0 20 := asc_out h2 k1 (.inl (by omega))
    have hB := h4.trans k4
    clear h1 h2 HX k1 h4 k4
    by_cases h21 : n = 20
    · have z2 : ¬ ((20 : Int) < (n : Int)) := by omega
      have HX := Lib.hid (And.intro hS (And.intro hA k3))
      clear hS hA k2 k3 hs'
      go_wp2_with fail
      refine wp_loop_rounds 1 ?_
      rw [rounds_succ]
      go_wp2_with fail
      go_end0
      obtain ⟨h1, h2, h3⟩ := HX.out
      exact ⟨rfl, M2, h1, by rw [h21]; exact h2, h3, hB⟩
    · have z2 : ((20 : Int) < (n : Int)) := by omega
      have hc := hs'.out M2 0 20 n w3 (by omega) k3 hM2n (by omega) (by omega) (by omega) hbw3 hA k2
      have HX := Lib.hid (And.intro hS k3)
      clear hS hA k2 k3 hs'
      go_wp2_with fail
      refine wp_loop_rounds 2 ?_
      rw [rounds_succ]
      go_wp2_with fail
      refine wp_loop_rounds 1 ?_
      rw [rounds_succ]
      go_wp2_with fail
      refine hc.mono ?_
      rintro r w4 ⟨rfl, M3, k1, k2, k3, k4⟩
      go_wp2_with fail
      rw [rounds_succ]
      go_wp2_with fail
      go_end0
      obtain ⟨h1, h2⟩ := HX.out
      exact ⟨rfl, M3, h1.trans k1, k2, k3, hB.trans k4⟩

theorem RdY.cells {w : World} {b off : Nat} {l : List Ply} (h : RdY w b off l) : ∀ j u, (cellsY l)[j]? = some u → w.cell? ((⟨b, off, none⟩ : Addr).add j) = some u := by
  intro j u hu
  have hj : j < l.length * 7 := by
    have := (List.getElem?_eq_some_iff.1 hu).1
    rwa [cellsY_len] at this
  rw [Addr.add_lit]
  obtain ⟨h0, h1, h2, h3, h4, h5, h6⟩ := h (j / 7) (by omega)
  have key : ∀ i v, i < 7 → j % 7 = i → (encY (nth l (j / 7)))[i]? = some v → w.cell? ⟨b, off + j / 7 * 7 + i, none⟩ = some v → w.cell? ⟨b, off + j, none⟩ = some u := by
    intro i v hi hm he hc
    have e2 := cellsY_get l (j / 7) i (by omega) hi
    rw [show j / 7 * 7 + i = j by omega, hu, he] at e2
    cases e2
    rw [show off + j = off + j / 7 * 7 + i by omega]; exact hc
  have hm : j % 7 = 0 ∨ j % 7 = 1 ∨ j % 7 = 2 ∨ j % 7 = 3 ∨ j % 7 = 4 ∨ j % 7 = 5 ∨ j % 7 = 6 := by omega
  rcases hm with hm | hm | hm | hm | hm | hm | hm
  · exact key 0 _ (by omega) hm rfl h0
  · exact key 1 _ (by omega) hm rfl h1
  · exact key 2 _ (by omega) hm rfl h2
  · exact key 3 _ (by omega) hm rfl h3
  · exact key 4 _ (by omega) hm rfl h4
  · exact key 5 _ (by omega) hm rfl h5
  · exact key 6 _ (by omega) hm rfl h6
theorem cellsY_one (l : List Ply) : ∀ v ∈ cellsY l, v.oneCell' = true := by
  intro v hv
  obtain ⟨x, _, hx⟩ := List.mem_flatMap.1 hv
  simp [encY] at hx
  rcases hx with rfl | rfl | rfl | rfl | rfl | rfl | rfl <;> rfl

set_option maxHeartbeats 2000000 in
theorem cloneY (A : Option Addr) (c : Nat) (l : List Ply) (w : World) (h0 : 0 < l.length) (hl : l.length ≤ 1000) (h : SlY w A l) :
    Calls Tryz.prog 23 #[.slice A l.length c] w fun e w' => ∃ g cap, e = .returned (.slice (some ⟨g, 0, none⟩) l.length cap) ∧ w'.ownsRow w.heap.size 30 7 (.slice (some ⟨g, 0, none⟩) l.length cap) l.length (cellsY l) ∧ Below w.heap.size w w' := by
  obtain ⟨b, off, rfl, hb, hr⟩ := h.some h0
  obtain ⟨i0, hi, hi0, hi1, hi2⟩ := info_parts info30
  have hi := Lib.hid hi
  have q22 : ∀ (w : World) (a : Option Addr) (n c n' c' : Nat), (binOp .eql 25 (.slice a n c) (.slice none n' c')).run Tryz.prog w = .ok (.bool a.isNone) w := fun w a n c n' c' => Lib.run_eql_slice_nil w _ _ a n c n' c' Tryz.underlying25
  have hcl := Lib.hid (hr.below ((Below.refl _ w).alloc (Nat.le_refl _) (.cells #[] 30)) hb).cells
  have hlen := cellsY_len l
  have hone := cellsY_one l
  clear hr h
  generalize cellsY l = xs at *
  generalize hn : l.length = n at *
  go_enter Tryz.func23, Tryz.ntmps23
  go_wp2_with (at_builtin; refine wpList_append_lies _ rfl _ _ 25 rfl w.heap.size 30 i0 (.agg #[.int .i64 0, .int .i64 0, .int .i64 0, .int .i64 0, .int .i64 0, .int .i64 0, .int .i64 0]) 7 56 Tryz.underlying25 hi.out hi0 hi1 hi2 rfl (by omega) _ _ _ (by rfl) (World.ownsRow_made w #[] 0 (Nat.le_refl _) (Nat.zero_le _) rfl) ⟨b, off, none⟩ n c xs (by rfl) hlen hcl.out hone h0 ?_ ?_ ?_ (w.heap.size + 1) ?_ ?_)
  · unfold maxLen; omega
  · omega
  · simp
  · simp
  · intro g cap w9 hown9 hgrow hat hlt1
    go_wp2_with fail
    go_ret
    have hown9 : w9.ownsRow w.heap.size 30 7 (.slice (some ⟨g, 0, none⟩) n cap) n xs := by simpa using hown9
    exact ⟨g, cap, by simp, hown9, ((Below.refl _ w).alloc (Nat.le_refl _) _).grown hgrow (by simp) (by intro k hk; simp [Value.ownBlock] at hk; omega)⟩
set_option maxHeartbeats 2000000 in
theorem clone0 (A : Option Addr) (c : Nat) (w : World) :
    Calls Tryz.prog 23 #[.slice A 0 c] w fun e w' => (∃ B d, e = .returned (.slice B 0 d)) ∧ Below w.heap.size w w' := by
  have q22 : ∀ (w : World) (a : Option Addr) (n c n' c' : Nat), (binOp .eql 25 (.slice a n c) (.slice none n' c')).run Tryz.prog w = .ok (.bool a.isNone) w := fun w a n c n' c' => Lib.run_eql_slice_nil w _ _ a n c n' c' Tryz.underlying25
  cases A with
  | none =>
    go_enter Tryz.func23, Tryz.ntmps23
    go_wp2_with fail
    go_ret
    exact ⟨⟨_, _, rfl⟩, Below.refl _ _⟩
  | some a =>
    go_enter Tryz.func23, Tryz.ntmps23
    go_wp2_with fail
    go_ret
    exact ⟨⟨_, _, rfl⟩, (Below.refl _ w).alloc (Nat.le_refl _) _⟩
theorem ownB_sl {w : World} {base g n cap : Nat} {l : List Ply} (h : w.ownsRow base 30 7 (.slice (some ⟨g, 0, none⟩) n cap) n (cellsY l)) (hn : l.length = n) : SlY w (some ⟨g, 0, none⟩) l := by
  subst hn
  obtain ⟨A, c, e, hs⟩ := ownY_slice h
  cases e
  exact hs

set_option maxHeartbeats 2000000 in
theorem sortStableC (L : List Ply) (g cap n base : Nat) (w : World) (hown : w.ownsRow base 30 7 (.slice (some ⟨g, 0, none⟩) n cap) n (cellsY L)) (hbase : base ≤ g) (hn : L.length = n) (h30 : n ≤ 39) (hbw : base ≤ w.heap.size) :
    Calls Tryz.prog 24 #[.slice (some ⟨g, 0, none⟩) n cap, .func (.func 9) #[] #[]] w fun r w' => r = .returned (.tuple #[]) ∧ ∃ L', Same 0 n L L' ∧ AscR L' 0 n ∧ w'.ownsRow base 30 7 (.slice (some ⟨g, 0, none⟩) n cap) n (cellsY L') ∧ Below base w w' := by
  have hc := stableC L g cap n base w hown hbase hn h30 hbw
  clear hown
  go_enter Tryz.func24, Tryz.ntmps24
  go_wp2_with fail
  refine hc.mono ?_
  rintro r w2 ⟨rfl, L', h1, h2, h3, h4⟩
  go_wp2_with fail
  go_end0
  exact ⟨rfl, L', h1, h2, h3, h4⟩
set_option maxHeartbeats 2000000 in
theorem stable0 (A : Option Addr) (c : Nat) (f : Value) (w : World) :
    Calls Tryz.prog 40 #[.slice A 0 c, .int .i64 0, f] w fun r w' => r = .returned (.tuple #[]) ∧ w' = w := by
  have hi : Calls Tryz.prog 73 #[.slice A 0 c, .int .i64 0, .int .i64 0, f] w fun r w' => r = .returned (.tuple #[]) ∧ w' = w := by
    go_enter Tryz.func73, Tryz.ntmps73
    go_wp2_with fail
    refine wp_loop_rounds 1 ?_
    rw [rounds_succ]
    go_wp2_with fail
    go_end0
    exact ⟨rfl, rfl⟩
  go_enter Tryz.func40, Tryz.ntmps40
  go_wp2_with fail
  refine wp_loop_rounds 1 ?_
  rw [rounds_succ]
  go_wp2_with fail
  refine hi.mono ?_
  rintro r w2 ⟨rfl, rfl⟩
  go_wp2_with fail
  refine wp_loop_rounds 1 ?_
  rw [rounds_succ]
  go_wp2_with fail
  go_end0
  exact ⟨rfl, rfl⟩
set_option maxHeartbeats 2000000 in
theorem sortStable0 (A : Option Addr) (c : Nat) (f : Value) (w : World) :
    Calls Tryz.prog 24 #[.slice A 0 c, f] w fun r w' => r = .returned (.tuple #[]) ∧ w' = w := by
  have hc := stable0 A c f w
  go_enter Tryz.func24, Tryz.ntmps24
  go_wp2_with fail
  refine hc.mono ?_
  rintro r w2 ⟨rfl, rfl⟩
  go_wp2_with fail
  go_end0
  exact ⟨rfl, rfl⟩
/-- perform.Sort: the elements in ascending order. -/
theorem sortC (A : Option Addr) (c : Nat) (l : List Ply) (w : World) (hl : l.length ≤ 39) (h : SlY w A l) :
    Calls Tryz.prog 12 #[.slice A l.length c] w fun e w' => (∃ B d L', e = .returned (.slice B l.length d) ∧ SlY w' B L' ∧ Same 0 l.length l L' ∧ AscR L' 0 l.length) ∧ Below w.heap.size w w' := by
  by_cases h0 : 0 < l.length
  · have hc := cloneY A c l w h0 (by omega) h
    go_enter Tryz.func12, Tryz.ntmps12
    go_wp2_with fail
    refine hc.mono ?_
    rintro e w1 ⟨g, cap, rfl, ho, hb⟩
    have hs := sortStableC l g cap l.length w.heap.size w1 ho (ho.lt g rfl).1 rfl hl hb.size
    clear hc ho h
    go_wp2_with fail
    refine hs.mono ?_
    rintro e w2 ⟨rfl, L', h1, h2, h3, h4⟩
    have hsl := ownB_sl h3 h1.length
    clear hs h3
    go_wp2_with fail
    go_ret
    exact ⟨⟨_, _, L', rfl, hsl, h1, h2⟩, hb.trans h4⟩
  · obtain rfl : l = [] := List.eq_nil_of_length_eq_zero (by omega)
    have hc := clone0 A c w
    clear h hl h0
    show Calls Tryz.prog 12 #[.slice A 0 c] w _
    go_enter Tryz.func12, Tryz.ntmps12
    go_wp2_with fail
    refine hc.mono ?_
    rintro e w1 ⟨⟨B, d, rfl⟩, hb⟩
    have hs := sortStable0 B d (.func (.func 9) #[] #[]) w1
    go_wp2_with fail
    refine hs.mono ?_
    rintro e w2 ⟨rfl, rfl⟩
    go_wp2_with fail
    go_ret
    exact ⟨⟨_, _, [], rfl, .inl rfl, Same.refl _ _ _, fun i j h1 h2 h3 => by simp at h3⟩, hb⟩
end Go.Proofs.YtmbchdfgckmpoaaGreat
