/- Find, Name and Text of package check. -/
import Derived.Test.YtfhijafkpenogaaGreatDoorKB
import Derived.Test.YtfhijafkpenogaaGreatDoorShelf
import Derived.Lib.QuietBelow
import Derived.Lib.LaidTab
import Derived.Lib.AppendIntMem
namespace Go.Proofs.YtfhijafkpenogaaGreatDoor
open Go.RowKit Go.Sort

abbrev Tab (w : World) : Prop := Lib.TabIs Tryz.prog w "internal/strconv.uint64pow10" .u64 Lib.pow10Tab
theorem Tab.below {w w' : World} (h : Tab w) (hb : Below w.heap.size w w') : Tab w' := Lib.tabBelow_of_tabIs h w' hb
theorem itoa_len (z : Int) (h1 : -9223372036854775808 ≤ z) (h2 : z ≤ 9223372036854775807) : (Lib.itoa z).length ≤ 21 := Lib.itoa_length_le z (by omega) (by omega)
theorem itoaC (z : Int) (w : World) (h : Tab w) (h0 : -9223372036854775808 ≤ z) (h1 : z ≤ 9223372036854775807) : Calls Tryz.prog 15 #[.int .i64 z] w fun e w' => e = .returned (.string (bs (Lib.itoa z))) ∧ Below w.heap.size w w' :=
  (Tryz.strconv_Itoa z h0 h1 w h).mono fun _ _ ⟨he, k, os, hw⟩ => ⟨he, hw ▸ Lib.below_grow _ w (Nat.le_refl _) k os⟩

theorem withinC (n lo hi : Int) (w : World) : Calls Tryz.prog 14 #[.int .i64 n, .int .i64 lo, .int .i64 hi] w fun e w' => e = .returned (.bool (decide (lo ≤ n) && decide (n ≤ hi))) ∧ w' = w := by
  have hc : (decide (lo ≤ n) = true ∧ decide (n ≤ hi) = true) ∨ (decide (lo ≤ n) = true ∧ decide (n ≤ hi) = false) ∨ decide (lo ≤ n) = false := by
    cases decide (lo ≤ n) <;> cases decide (n ≤ hi) <;> simp
  rcases hc with ⟨e1, e2⟩ | ⟨e1, e2⟩ | e1
  · rw [e1, e2]
    go_enter Tryz.func14, Tryz.ntmps14
    go_wp2_with fail
    go_ret
    exact ⟨rfl, rfl⟩
  · rw [e1, e2]
    go_enter Tryz.func14, Tryz.ntmps14
    go_wp2_with fail
    go_ret
    exact ⟨rfl, rfl⟩
  · rw [e1]
    go_enter Tryz.func14, Tryz.ntmps14
    go_wp2_with fail
    go_ret
    exact ⟨rfl, rfl⟩

theorem ixF_range (s : List UInt8) : -1 ≤ ixF s ∧ ixF s ≤ 16 := by
  unfold ixF
  cases hf : (List.range 17).find? (fun k => nm k == s) with
  | none => simp
  | some j =>
    have h2 := List.mem_of_find?_eq_some hf
    have : j < 17 := by simpa using h2
    simp only
    omega

theorem findC (s : ByteArray) (w : World) : Calls Tryz.prog 5 #[.string s] w fun e w' => e = .returned (.tuple #[.int .i64 (ixF s.toList + 1), .int .i64 (if ixF s.toList = -1 then 8 else 0)]) ∧ Below w.heap.size w w' := by
  have c2 := fun b off w hb h => indexC b off s w hb h
  have hr := ixF_range s.toList
  generalize ixF s.toList = z at *
  have hz : z = -1 ∨ (z ≠ -1 ∧ decide (z < 0) = false ∧ IntKind.i64.wrap (z + 1) = z + 1) := by
    by_cases h : z = -1
    · exact .inl h
    · exact .inr ⟨h, decide_eq_false (by omega), IntWalk.i64_in _ (by omega)⟩
  clear hr
  rcases hz with rfl | ⟨h1, h2, h3⟩
  · go_enter Tryz.func5, Tryz.ntmps5
    go_wp2_with fail
    refine (namesC _).mono ?_
    rintro e w1 ⟨rfl, hb1, hl1, hr1⟩
    go_wp2_with fail
    refine (c2 _ _ _ hl1 hr1).mono ?_
    rintro e w2 ⟨rfl, hb2⟩
    go_wp2_with fail
    go_returns
    exact ⟨rfl, hb1.trans (hb2.mono hb1.size)⟩
  · rw [if_neg h1]
    clear h1
    go_enter Tryz.func5, Tryz.ntmps5
    go_wp2_with fail
    refine (namesC _).mono ?_
    rintro e w1 ⟨rfl, hb1, hl1, hr1⟩
    go_wp2_with fail
    refine (c2 _ _ _ hl1 hr1).mono ?_
    rintro e w2 ⟨rfl, hb2⟩
    go_wp2_with fail
    go_returns
    exact ⟨rfl, hb1.trans (hb2.mono hb1.size)⟩

/-- Name at a number that is no rule. -/
theorem nameBad (r : Int) (h : (decide ((1 : Int) ≤ r) && decide (r ≤ 17)) = false) (w : World) : Calls Tryz.prog 6 #[.int .i64 r] w fun e w' => e = .returned (.tuple #[.string (bs []), .int .i64 11]) ∧ Below w.heap.size w w' := by
  have c := fun w => withinC r 1 17 w
  rw [h] at c
  clear h
  go_enter Tryz.func6, Tryz.ntmps6
  go_wp2_with fail
  refine (c _).mono ?_
  rintro e w1 ⟨rfl, rfl⟩
  go_wp2_with fail
  go_returns
  exact ⟨rfl, .refl _ _⟩
/-- Name at a rule. -/
theorem nameGood (k : Nat) (hk : k < 17) (w : World) : Calls Tryz.prog 6 #[.int .i64 ((k : Int) + 1)] w fun e w' => e = .returned (.tuple #[.string (bs (nm k)), .int .i64 0]) ∧ Below w.heap.size w w' := by
  have c := fun w => withinC ((k : Int) + 1) 1 17 w
  have e1 : (decide ((1 : Int) ≤ (k : Int) + 1) && decide ((k : Int) + 1 ≤ 17)) = true := by
    simp only [Bool.and_eq_true, decide_eq_true_eq]; omega
  rw [e1] at c
  have e2 : IntKind.i64.wrap ((k : Int) + 1 - 1) = k := by rw [show (k : Int) + 1 - 1 = k by omega]; exact IntWalk.i64_in _ (by omega)
  clear e1
  go_enter Tryz.func6, Tryz.ntmps6
  go_wp2_with fail
  refine (c _).mono ?_
  rintro e w1 ⟨rfl, rfl⟩
  go_wp2_with fail
  refine (namesC _).mono ?_
  rintro e w2 ⟨rfl, hb2, hl2, hr2⟩
  have x := hr2 k hk
  rw [Nat.zero_add] at x
  clear hr2
  go_wp2_with fail
  go_returns
  exact ⟨rfl, hb2⟩
end Go.Proofs.YtfhijafkpenogaaGreatDoor
