/- interval: places, goal, spelled, Transpose, Between. -/
import Derived.Test.YteoghladllohjaaGreatDoorT4
namespace Go.Proofs.YteoghladllohjaaGreatDoor
open Go.RowKit Go.Shelf Go.Sort

set_option maxHeartbeats 1000000 in
theorem diaC (s a o : Int) (w : World) (h : pitchCheckF s a o = 0) : Calls Tryz.prog 43 #[.agg #[.int .i64 s, .int .i64 a, .int .i64 o]] w fun e w' => e = .returned (.tuple #[.int .i64 (7 * o + s), .int .i64 0]) ∧ Below w.heap.size w w' := by
  have hc := fun W => pitchCheck s a o W
  simp only [h] at hc
  obtain ⟨b1, b2, b3, b4, b5, b6, b7, b8⟩ := pitchCheckF_in h
  clear h
  go_enter Tryz.func43, Tryz.ntmps43
  go_wp2_with fail
  refine (hc _).mono ?_
  rintro e w1 ⟨rfl, hb1⟩
  obtain ⟨hc1, hf1⟩ := bcell hb1
  have hz : w.heap.size < w1.heap.size := by have := hb1.size; simp at this; omega
  go_wp2_with fail
  go_ret2
  exact ⟨rfl, ((Below.refl _ _).alloc (Nat.le_refl _) _).trans (hb1.mono (by simp))⟩
set_option maxHeartbeats 1000000 in
theorem numC (s a o : Int) (w : World) (h : pitchCheckF s a o = 0) : Calls Tryz.prog 44 #[.agg #[.int .i64 s, .int .i64 a, .int .i64 o]] w fun e w' => e = .returned (.tuple #[.int .i64 (numberF s a o), .int .i64 0]) ∧ Below w.heap.size w w' := by
  have hc := fun W => pitchCheck s a o W
  simp only [h] at hc
  obtain ⟨b1, b2, b3, b4, b5, b6, b7, b8⟩ := pitchCheckF_in h
  have hn := fun W => number s a o W b1 b2 b3 b4 b5 b6
  clear h
  go_enter Tryz.func44, Tryz.ntmps44
  go_wp2_with fail
  refine (hc _).mono ?_
  rintro e w1 ⟨rfl, hb1⟩
  have hb1' := ((Below.refl _ _).alloc (Nat.le_refl _) (.cells #[.int .i64 s, .int .i64 a, .int .i64 o] 26)).trans (hb1.mono (by simp))
  obtain ⟨hc1, hf1⟩ := bcell hb1
  have hz : w.heap.size < w1.heap.size := by have := hb1.size; simp at this; omega
  go_wp2_with fail
  refine (hn _).mono ?_
  rintro e w2 ⟨rfl, hb2⟩
  go_wp2_with fail
  go_ret2
  exact ⟨rfl, hb1'.trans (hb2.mono (by omega))⟩
set_option maxHeartbeats 1000000 in
theorem placesC (s a o : Int) (w : World) (h : pitchCheckF s a o = 0) : Calls Tryz.prog 33 #[.agg #[.int .i64 s, .int .i64 a, .int .i64 o]] w fun e w' => e = .returned (.tuple #[.int .i64 (7 * o + s), .int .i64 (numberF s a o), .int .i64 0]) ∧ Below w.heap.size w w' := by
  have hd := fun W => diaC s a o W h
  have hn := fun W => numC s a o W h
  clear h
  go_enter Tryz.func33, Tryz.ntmps33
  go_wp2_with fail
  refine (hd _).mono ?_
  rintro e w1 ⟨rfl, hb1⟩
  obtain ⟨hc1, hf1⟩ := bcell hb1
  have hz1 : w.heap.size < w1.heap.size := by have := hb1.size; simp at this; omega
  go_wp2_with fail
  refine (hn _).mono ?_
  rintro e w2 ⟨rfl, hb2⟩
  obtain ⟨hc2, hf2⟩ := bcell hb2
  have hz2 : w.heap.size < w2.heap.size := by have := hb2.size; omega
  go_wp2_with fail
  refine bodyPost_ret (v := .tuple #[.int .i64 (7 * o + s), .int .i64 (numberF s a o), .int .i64 0]) ?_ rfl ⟨rfl, ?_⟩
  · simp [results, Tryz.results33, go_sem]
  · exact (((Below.refl _ _).alloc (Nat.le_refl _) _).trans (hb1.mono (by simp))).trans (hb2.mono (by omega))
theorem icheckC (s m : Int) (w : World) (h1 : -77 ≤ s) (h2 : s ≤ 77) (h3 : -140 ≤ m) (h4 : m ≤ 140) : Calls Tryz.prog 11 #[.agg #[.int .i64 s, .int .i64 m]] w fun e w' => e = .returned (.int .i64 0) ∧ Below w.heap.size w w' := by
  go_enter Tryz.func11, Tryz.ntmps11
  go_wp2_with fail
  go_ret
  exact ⟨rfl, by go_grown⟩
theorem icheckBad (s m : Int) (w : World) (h : s < -77 ∨ 77 < s ∨ m < -140 ∨ 140 < m) : Calls Tryz.prog 11 #[.agg #[.int .i64 s, .int .i64 m]] w fun e w' => e = .returned (.int .i64 2) ∧ Below w.heap.size w w' := by
  have h : s < -77 ∨ (-77 ≤ s ∧ 77 < s) ∨ (-77 ≤ s ∧ s ≤ 77 ∧ m < -140) ∨ (-77 ≤ s ∧ s ≤ 77 ∧ -140 ≤ m ∧ 140 < m) := by omega
  rcases h with h | ⟨h1, h⟩ | ⟨h1, h2, h⟩ | ⟨h1, h2, h3, h⟩
  all_goals
    go_enter Tryz.func11, Tryz.ntmps11
    go_wp2_with fail
    go_ret
    exact ⟨rfl, by go_grown⟩
set_option maxHeartbeats 1000000 in
theorem goalC (s a o t m : Int) (w : World) (h : pitchCheckF s a o = 0) (h1 : -77 ≤ t) (h2 : t ≤ 77) (h3 : -140 ≤ m) (h4 : m ≤ 140) :
    Calls Tryz.prog 26 #[.agg #[.int .i64 s, .int .i64 a, .int .i64 o], .agg #[.int .i64 t, .int .i64 m]] w fun e w' => e = .returned (.tuple #[.int .i64 (7 * o + s + t), .int .i64 (numberF s a o + m), .int .i64 0]) ∧ Below w.heap.size w w' := by
  have hp := fun W => placesC s a o W h
  have hi := fun W => icheckC t m W h1 h2 h3 h4
  obtain ⟨b1, b2, b3, b4, b5, b6, b7, b8⟩ := pitchCheckF_in h
  clear h
  generalize numberF s a o = n at *
  go_enter Tryz.func26, Tryz.ntmps26
  go_wp2_with fail
  refine (hp _).mono ?_
  rintro e w1 ⟨rfl, hb1⟩
  obtain ⟨hc1, hf1⟩ := bcell hb1
  have hz1 : w.heap.size + 1 < w1.heap.size := by have := hb1.size; simp at this; omega
  go_wp2_with fail
  refine (hi _).mono ?_
  rintro e w2 ⟨rfl, hb2⟩
  obtain ⟨hc2, hf2⟩ := bcell hb2
  have hz2 : w.heap.size + 1 < w2.heap.size := by have := hb2.size; omega
  have hB := ((((Below.refl _ w).alloc (Nat.le_refl _) _).alloc (by simp) _).trans (hb1.mono (by simp; omega))).trans (hb2.mono (by omega))
  go_wp2_with fail
  go_region
  all_goals go_wp2_with fail
  all_goals
    refine bodyPost_ret (v := .tuple #[.int .i64 (7 * o + s + t), .int .i64 (n + m), .int .i64 0]) ?_ rfl ⟨rfl, ?_⟩
    · simp [results, Tryz.results26, go_sem]
    · first | exact hB | exact hB.drew
set_option maxHeartbeats 1000000 in
theorem betweenC (s a o s' a' o' : Int) (w : World) (h : pitchCheckF s a o = 0) (h' : pitchCheckF s' a' o' = 0) :
    Calls Tryz.prog 17 #[.agg #[.int .i64 s, .int .i64 a, .int .i64 o], .agg #[.int .i64 s', .int .i64 a', .int .i64 o']] w fun e w' => e = .returned (.tuple #[.agg #[.int .i64 (7 * o' + s' - (7 * o + s)), .int .i64 (numberF s' a' o' - numberF s a o)], .int .i64 0]) ∧ Below w.heap.size w w' := by
  have hp := fun W => placesC s a o W h
  have hq := fun W => placesC s' a' o' W h'
  obtain ⟨b1, b2, b3, b4, b5, b6, b7, b8⟩ := pitchCheckF_in h
  obtain ⟨c1, c2, c3, c4, c5, c6, c7, c8⟩ := pitchCheckF_in h'
  clear h h'
  generalize numberF s a o = n at *
  generalize numberF s' a' o' = n' at *
  go_enter Tryz.func17, Tryz.ntmps17
  go_wp2_with fail
  refine (hp _).mono ?_
  rintro e w1 ⟨rfl, hb1⟩
  obtain ⟨hc1, hf1⟩ := bcell hb1
  have hz1 : w.heap.size + 2 < w1.heap.size := by have := hb1.size; simp at this; omega
  go_wp2_with fail
  refine (hq _).mono ?_
  rintro e w2 ⟨rfl, hb2⟩
  obtain ⟨hc2, hf2⟩ := bcell hb2
  have hz2 : w.heap.size + 2 < w2.heap.size := by have := hb2.size; omega
  go_wp2_with fail
  obtain ⟨v0, d0⟩ : ∃ v, w2.cell? ⟨w.heap.size + 1 + 1, 0, none⟩ = some v := ⟨.int .i64 0, by rw [hc2 _ _ (by omega), hc1 _ _ (by simp)]; simp [go_sem]⟩
  obtain ⟨v1, d1⟩ : ∃ v, w2.cell? ⟨w.heap.size + 1 + 1, 1, none⟩ = some v := ⟨.int .i64 0, by rw [hc2 _ _ (by omega), hc1 _ _ (by simp)]; simp [go_sem]⟩
  have hB := (((((Below.refl _ w).alloc (Nat.le_refl _) _).alloc (by simp) _).alloc (by simp; omega) _).trans (hb1.mono (by simp; omega))).trans (hb2.mono (by omega))
  refine bodyPost_ret (v := .tuple #[.agg #[.int .i64 (7 * o' + s' - (7 * o + s)), .int .i64 (n' - n)], .int .i64 0]) ?_ rfl ⟨rfl, (hB.setCell (p := ⟨w.heap.size + 1 + 1, 0, none⟩) (by show _ ≤ w.heap.size + 1 + 1; omega) _).setCell (p := ⟨w.heap.size + 1 + 1, 1, none⟩) (by show _ ≤ w.heap.size + 1 + 1; omega) _⟩
  simp [results, Tryz.results17, go_sem, d0, d1]
end Go.Proofs.YteoghladllohjaaGreatDoor
