/- Text of package check. -/
import Derived.Test.YtfhijafkpenogaaGreatDoorKC
namespace Go.Proofs.YtfhijafkpenogaaGreatDoor
open Go.RowKit Go.Sort

abbrev vioV (r s n : Int) : Value := .agg #[.int .i64 r, .int .i64 s, .int .i64 n]
theorem nm_size (k : Nat) : (bs (nm k)).size ≤ 20 := by
  rw [bs_size]
  unfold nm
  rw [List.getD_eq_getElem?_getD]
  rcases Nat.lt_or_ge k 17 with h | h
  · have : ∀ i, i < 17 → (nmL[i]?.getD []).length ≤ 20 := by decide
    exact this k h
  · rw [List.getElem?_eq_none (by simpa [nmL] using h)]; simp

theorem textBad (r s n : Int) (h : (decide ((1 : Int) ≤ r) && decide (r ≤ 17)) = false) (w : World) : Calls Tryz.prog 7 #[vioV r s n] w fun e w' => e = .returned (.string (bs [])) ∧ Below w.heap.size w w' := by
  have c := fun w => nameBad r h w
  clear h
  have hB : Below w.heap.size w (w.alloc (.cells #[.int .i64 r, .int .i64 s, .int .i64 n] 25)) := (Below.refl _ w).alloc (Nat.le_refl _) _
  go_enter Tryz.func7, Tryz.ntmps7
  go_wp2_with fail
  refine (c _).mono ?_
  rintro e w1 ⟨rfl, hb1⟩
  go_wp2_with fail
  go_ret
  exact ⟨rfl, hB.trans (hb1.mono hB.size)⟩

theorem textNone (k : Nat) (hk : k < 17) (w : World) : Calls Tryz.prog 7 #[vioV ((k : Int) + 1) 0 0] w fun e w' => e = .returned (.string (bs (nm k))) ∧ Below w.heap.size w w' := by
  have c := fun w => nameGood k hk w
  have hB : Below w.heap.size w (w.alloc (.cells #[.int .i64 ((k : Int) + 1), .int .i64 0, .int .i64 0] 25)) := (Below.refl _ w).alloc (Nat.le_refl _) _
  have y1 : (w.alloc (.cells #[.int .i64 ((k : Int) + 1), .int .i64 0, .int .i64 0] 25)).cell? ⟨w.heap.size, 1, none⟩ = some (.int .i64 0) := by simp [go_sem]
  have y2 : (w.alloc (.cells #[.int .i64 ((k : Int) + 1), .int .i64 0, .int .i64 0] 25)).cell? ⟨w.heap.size, 2, none⟩ = some (.int .i64 0) := by simp [go_sem]
  have z0 : w.heap.size < (w.alloc (.cells #[.int .i64 ((k : Int) + 1), .int .i64 0, .int .i64 0] 25)).heap.size := by simp
  go_enter Tryz.func7, Tryz.ntmps7
  go_wp2_with fail
  refine (c _).mono ?_
  rintro e w1 ⟨rfl, hb1⟩
  have x1 := (hb1.cell (p := ⟨w.heap.size, 1, none⟩) z0).trans y1
  have x2 := (hb1.cell (p := ⟨w.heap.size, 2, none⟩) z0).trans y2
  go_wp2_with fail
  go_ret
  exact ⟨rfl, hB.trans (hb1.mono hB.size)⟩

def txt (N S1 S2 : ByteArray) : ByteArray := N ++ ⟨#[32, 64]⟩ ++ S1 ++ ⟨#[46]⟩ ++ S2
set_option maxHeartbeats 1000000 in
theorem textGood (k : Nat) (s n : Int) (N S1 S2 : ByteArray) (hne : (s == 0 && n == 0) = false) (w : World) (hT : Tab w) (h0 : N.size ≤ 20) (h1 : S1.size ≤ 30) (h2 : S2.size ≤ 30)
    (c0 : ∀ w, Calls Tryz.prog 6 #[.int .i64 ((k : Int) + 1)] w fun e w' => e = .returned (.tuple #[.string N, .int .i64 0]) ∧ Below w.heap.size w w')
    (c1 : ∀ w, Tab w → Calls Tryz.prog 15 #[.int .i64 s] w fun e w' => e = .returned (.string S1) ∧ Below w.heap.size w w')
    (c2 : ∀ w, Tab w → Calls Tryz.prog 15 #[.int .i64 n] w fun e w' => e = .returned (.string S2) ∧ Below w.heap.size w w') :
    Calls Tryz.prog 7 #[vioV ((k : Int) + 1) s n] w fun e w' => e = .returned (.string (txt N S1 S2)) ∧ Below w.heap.size w w' := by
  unfold txt
  have n1 : (⟨#[32, 64]⟩ : ByteArray).size = 2 := rfl
  have n2 : (⟨#[46]⟩ : ByteArray).size = 1 := rfl
  have n3 := ByteArray.size_append (a := N) (b := ⟨#[32, 64]⟩)
  have n4 := ByteArray.size_append (a := N ++ ⟨#[32, 64]⟩) (b := S1)
  have n5 := ByteArray.size_append (a := N ++ ⟨#[32, 64]⟩ ++ S1) (b := ⟨#[46]⟩)
  have a0 := fun w => run_string_add (P := Tryz.prog) w N ⟨#[32, 64]⟩ (by omega) (by omega)
  have a1 := fun w => run_string_add (P := Tryz.prog) w (N ++ ⟨#[32, 64]⟩) S1 (by omega) (by omega)
  have a2 := fun w => run_string_add (P := Tryz.prog) w (N ++ ⟨#[32, 64]⟩ ++ S1) ⟨#[46]⟩ (by omega) (by omega)
  have a3 := fun w => run_string_add (P := Tryz.prog) w (N ++ ⟨#[32, 64]⟩ ++ S1 ++ ⟨#[46]⟩) S2 (by omega) (by omega)
  clear n1 n2 n3 n4 n5 h0 h1 h2
  have hB : Below w.heap.size w (w.alloc (.cells #[.int .i64 ((k : Int) + 1), .int .i64 s, .int .i64 n] 25)) := (Below.refl _ w).alloc (Nat.le_refl _) _
  have y1 : (w.alloc (.cells #[.int .i64 ((k : Int) + 1), .int .i64 s, .int .i64 n] 25)).cell? ⟨w.heap.size, 1, none⟩ = some (.int .i64 s) := by simp [go_sem]
  have y2 : (w.alloc (.cells #[.int .i64 ((k : Int) + 1), .int .i64 s, .int .i64 n] 25)).cell? ⟨w.heap.size, 2, none⟩ = some (.int .i64 n) := by simp [go_sem]
  have z0 : w.heap.size < (w.alloc (.cells #[.int .i64 ((k : Int) + 1), .int .i64 s, .int .i64 n] 25)).heap.size := by simp
  have hcase : (s == 0) = false ∨ ((s == 0) = true ∧ (n == 0) = false) := by
    cases h : (s == 0)
    · exact .inl rfl
    · rw [h] at hne; exact .inr ⟨rfl, by simpa using hne⟩
  clear hne
  rcases hcase with e1 | ⟨e1, e2⟩
  all_goals
    go_enter Tryz.func7, Tryz.ntmps7
    go_wp2_with fail
    refine (c0 _).mono ?_
    rintro e w1 ⟨rfl, hb1⟩
    have x1 := (hb1.cell (p := ⟨w.heap.size, 1, none⟩) z0).trans y1
    have x2 := (hb1.cell (p := ⟨w.heap.size, 2, none⟩) z0).trans y2
    have hB1 := hB.trans (hb1.mono hB.size)
    have hT1 := hT.below hB1
    have z1 : w.heap.size < w1.heap.size := Nat.lt_of_lt_of_le z0 hb1.size
    clear y1 y2 z0 hb1 hB hT
    go_upto_region 4 with (fail)
    have q1 := cell_regrown x1
    have q2 := cell_regrown x2
    have k1 := fun d os => (c1 (grow (redrawn w1 d) os) (hT1.below (below_regrown w1 d os))).regrown_of
    have k2 := fun d os => (c2 (grow (redrawn w1 d) os) (hT1.below (below_regrown w1 d os))).regrown_of
    refine wp_region_quiet_below (by kernel_rfl) (by kernel_rfl) ?_
    repeat (quiet_step ((go_at_call 15; first | (with_reducible exact k1 _ _) | (with_reducible exact k2 _ _))))
    refine wpQuiet_nil ?_
    intro _ hw'
    obtain ⟨⟨dq, osq⟩, hw''⟩ := hw'
    subst hw''
    go_wp2_with fail
    go_ret
    exact ⟨rfl, hB1.trans ((below_regrown w1 dq osq).mono hB1.size)⟩
end Go.Proofs.YtfhijafkpenogaaGreatDoor
