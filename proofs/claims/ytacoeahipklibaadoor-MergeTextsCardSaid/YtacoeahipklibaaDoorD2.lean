/- The texts of ids, in the model and in the program. -/
import Derived.Test.YtacoeahipklibaaDoorD1
import Derived.Test.YtacoeahipklibaaDoorShelf
import Derived.Lib.QuietBelow
import Derived.Lib.LaidTab
import Derived.Lib.AppendIntMem
namespace Go.Proofs.YtacoeahipklibaaDoor
open Go.RowKit Go.Sort

theorem itoa_size (z : Int) (h1 : -9223372036854775808 ≤ z) (h2 : z ≤ 9223372036854775807) : (⟨(Lib.itoa z).toArray⟩ : ByteArray).size ≤ 100 := by
  show (Lib.itoa z).toArray.size ≤ 100
  simp
  have := Lib.itoa_length_le z (by omega) (by omega)
  omega
theorem decimalZ (z : Int) (w : World) (h0 : 0 ≤ z) (h1 : z ≤ 9223372036854775807) : Calls Tryd.prog 26 #[.int .i64 z] w fun e w' => e = .returned (.string ⟨(Lib.itoa z).toArray⟩) ∧ Below w.heap.size w w' := by
  obtain ⟨n, rfl⟩ : ∃ n : Nat, z = n := ⟨z.toNat, by omega⟩
  rw [Lib.itoa_nonneg]
  exact decimalM n w (by omega)
abbrev Tab (w : World) : Prop := Lib.TabIs Tryd.prog w "internal/strconv.uint64pow10" .u64 Lib.pow10Tab
theorem Tab.below {w w' : World} (h : Tab w) (hb : Below w.heap.size w w') : Tab w' := Lib.tabBelow_of_tabIs h w' hb
theorem itoaC (z : Int) (w : World) (h : Tab w) (h0 : -9223372036854775808 ≤ z) (h1 : z ≤ 9223372036854775807) : Calls Tryd.prog 31 #[.int .i64 z] w fun e w' => e = .returned (.string ⟨(Lib.itoa z).toArray⟩) ∧ Below w.heap.size w w' :=
  (Tryd.strconv_Itoa z h0 h1 w h).mono fun _ _ ⟨he, k, os, hw⟩ => ⟨he, hw ▸ Lib.below_grow _ w (Nat.le_refl _) k os⟩

def idStr (S1 S2 : ByteArray) : ByteArray := ⟨#[64]⟩ ++ S1 ++ ⟨#[46]⟩ ++ S2
set_option maxHeartbeats 200000 in
theorem nameS (a b : Int) (S1 S2 : ByteArray) (h1 : S1.size ≤ 100) (h2 : S2.size ≤ 100) (w : World)
    (c1 : ∀ w, Calls Tryd.prog 26 #[.int .i64 a] w fun e w' => e = .returned (.string S1) ∧ Below w.heap.size w w')
    (c2 : ∀ w, Calls Tryd.prog 26 #[.int .i64 b] w fun e w' => e = .returned (.string S2) ∧ Below w.heap.size w w') :
    Calls Tryd.prog 15 #[.agg #[.int .i64 a, .int .i64 b]] w fun e w' => e = .returned (.string (idStr S1 S2)) ∧ Below w.heap.size w w' := by
  have n1 : (⟨#[64]⟩ : ByteArray).size = 1 := rfl
  have n2 : (⟨#[46]⟩ : ByteArray).size = 1 := rfl
  have n3 := ByteArray.size_append (a := ⟨#[64]⟩) (b := S1)
  have n4 := ByteArray.size_append (a := ⟨#[64]⟩ ++ S1) (b := ⟨#[46]⟩)
  have a1 := fun w => run_string_add (P := Tryd.prog) w ⟨#[64]⟩ S1 (by omega) (by omega)
  have a2 := fun w => run_string_add (P := Tryd.prog) w (⟨#[64]⟩ ++ S1) ⟨#[46]⟩ (by omega) (by omega)
  have a3 := fun w => run_string_add (P := Tryd.prog) w (⟨#[64]⟩ ++ S1 ++ ⟨#[46]⟩) S2 (by omega) (by omega)
  clear n1 n2 n3 n4
  clear h1 h2
  have hB : Below w.heap.size w (w.alloc (.cells #[.int .i64 a, .int .i64 b] 30)) := (Below.refl _ w).alloc (Nat.le_refl _) _
  have y0 : (w.alloc (.cells #[.int .i64 a, .int .i64 b] 30)).cell? ⟨w.heap.size, 0, none⟩ = some (.int .i64 a) := by simp [go_sem]
  have y1 : (w.alloc (.cells #[.int .i64 a, .int .i64 b] 30)).cell? ⟨w.heap.size, 1, none⟩ = some (.int .i64 b) := by simp [go_sem]
  have z0 : w.heap.size < (w.alloc (.cells #[.int .i64 a, .int .i64 b] 30)).heap.size := by simp
  go_enter Tryd.func15, Tryd.ntmps15
  go_upto_region 1 with (fail)
  generalize w.alloc (.cells #[.int .i64 a, .int .i64 b] 30) = v at *
  have x0 := cell_regrown y0
  have x1 := cell_regrown y1
  have k1 := fun d os => (c1 (grow (redrawn v d) os)).regrown_of
  have k2 := fun d os => (c2 (grow (redrawn v d) os)).regrown_of
  refine wp_region_quiet_below (by kernel_rfl) (by kernel_rfl) ?_
  repeat (quiet_step ((go_at_call 26; first | (with_reducible exact k1 _ _) | (with_reducible exact k2 _ _))))
  refine wpQuiet_nil ?_
  intro _ hw'
  obtain ⟨⟨dq, osq⟩, hw''⟩ := hw'
  subst hw''
  go_wp2_with fail
  go_ret
  exact ⟨rfl, hB.trans ((below_regrown v dq osq).mono (by omega))⟩

set_option maxHeartbeats 200000 in
theorem idTextS (a b : Int) (S1 S2 : ByteArray) (h1 : S1.size ≤ 100) (h2 : S2.size ≤ 100) (w : World) (hT : Tab w)
    (c1 : ∀ w, Tab w → Calls Tryd.prog 31 #[.int .i64 a] w fun e w' => e = .returned (.string S1) ∧ Below w.heap.size w w')
    (c2 : ∀ w, Tab w → Calls Tryd.prog 31 #[.int .i64 b] w fun e w' => e = .returned (.string S2) ∧ Below w.heap.size w w') :
    Calls Tryd.prog 25 #[.agg #[.int .i64 a, .int .i64 b]] w fun e w' => e = .returned (.string (idStr S1 S2)) ∧ Below w.heap.size w w' := by
  have n1 : (⟨#[64]⟩ : ByteArray).size = 1 := rfl
  have n2 : (⟨#[46]⟩ : ByteArray).size = 1 := rfl
  have n3 := ByteArray.size_append (a := ⟨#[64]⟩) (b := S1)
  have n4 := ByteArray.size_append (a := ⟨#[64]⟩ ++ S1) (b := ⟨#[46]⟩)
  have a1 := fun w => run_string_add (P := Tryd.prog) w ⟨#[64]⟩ S1 (by omega) (by omega)
  have a2 := fun w => run_string_add (P := Tryd.prog) w (⟨#[64]⟩ ++ S1) ⟨#[46]⟩ (by omega) (by omega)
  have a3 := fun w => run_string_add (P := Tryd.prog) w (⟨#[64]⟩ ++ S1 ++ ⟨#[46]⟩) S2 (by omega) (by omega)
  clear n1 n2 n3 n4
  clear h1 h2
  have hB : Below w.heap.size w (w.alloc (.cells #[.int .i64 a, .int .i64 b] 30)) := (Below.refl _ w).alloc (Nat.le_refl _) _
  have y0 : (w.alloc (.cells #[.int .i64 a, .int .i64 b] 30)).cell? ⟨w.heap.size, 0, none⟩ = some (.int .i64 a) := by simp [go_sem]
  have y1 : (w.alloc (.cells #[.int .i64 a, .int .i64 b] 30)).cell? ⟨w.heap.size, 1, none⟩ = some (.int .i64 b) := by simp [go_sem]
  have z0 : w.heap.size < (w.alloc (.cells #[.int .i64 a, .int .i64 b] 30)).heap.size := by simp
  go_enter Tryd.func25, Tryd.ntmps25
  go_upto_region 1 with (fail)
  generalize w.alloc (.cells #[.int .i64 a, .int .i64 b] 30) = v at *
  have x0 := cell_regrown y0
  have x1 := cell_regrown y1
  have k1 := fun d os => (c1 (grow (redrawn v d) os) ((hT.below hB).below (below_regrown v d os))).regrown_of
  have k2 := fun d os => (c2 (grow (redrawn v d) os) ((hT.below hB).below (below_regrown v d os))).regrown_of
  refine wp_region_quiet_below (by kernel_rfl) (by kernel_rfl) ?_
  repeat (quiet_step ((go_at_call 31; first | (with_reducible exact k1 _ _) | (with_reducible exact k2 _ _))))
  refine wpQuiet_nil ?_
  intro _ hw'
  obtain ⟨⟨dq, osq⟩, hw''⟩ := hw'
  subst hw''
  go_wp2_with fail
  go_ret
  exact ⟨rfl, hB.trans ((below_regrown v dq osq).mono (by omega))⟩

def txtStr (I F D : ByteArray) : ByteArray := I ++ ⟨#[32]⟩ ++ F ++ D
set_option maxHeartbeats 400000 in
theorem textS (a b d : Int) (I F : ByteArray) (h1 : I.size ≤ 300) (h2 : F.size ≤ 100) (w : World)
    (c1 : ∀ w', Below w.heap.size w w' → Calls Tryd.prog 25 #[.agg #[.int .i64 a, .int .i64 b]] w' fun e w'' => e = .returned (.string I) ∧ Below w'.heap.size w' w'') :
    Calls Tryd.prog 14 #[.agg #[.int .i64 a, .int .i64 b, .string F, .int .i64 d]] w fun e w' => e = .returned (.string (txtStr I F (if d = 1 then ⟨#[32, 108, 101, 102, 116]⟩ else if d = 2 then ⟨#[32, 114, 105, 103, 104, 116]⟩ else ⟨#[]⟩))) ∧ Below w.heap.size w w' := by
  have n1 : (⟨#[32]⟩ : ByteArray).size = 1 := rfl
  have n2 : (⟨#[32, 108, 101, 102, 116]⟩ : ByteArray).size = 5 := rfl
  have n5 : (⟨#[32, 114, 105, 103, 104, 116]⟩ : ByteArray).size = 6 := rfl
  have n3 := ByteArray.size_append (a := I) (b := ⟨#[32]⟩)
  have n4 := ByteArray.size_append (a := I ++ ⟨#[32]⟩) (b := F)
  have a1 := fun w => run_string_add (P := Tryd.prog) w I ⟨#[32]⟩ (by omega) (by omega)
  have a2 := fun w => run_string_add (P := Tryd.prog) w (I ++ ⟨#[32]⟩) F (by omega) (by omega)
  have a3 := fun w => run_string_add (P := Tryd.prog) w (I ++ ⟨#[32]⟩ ++ F) ⟨#[32, 108, 101, 102, 116]⟩ (by omega) (by omega)
  have a4 := fun w => run_string_add (P := Tryd.prog) w (I ++ ⟨#[32]⟩ ++ F) ⟨#[32, 114, 105, 103, 104, 116]⟩ (by omega) (by omega)
  have e0 : (I ++ ⟨#[32]⟩ ++ F ++ ⟨#[]⟩ : ByteArray) = I ++ ⟨#[32]⟩ ++ F := by
    apply ByteArray.ext; simp
  clear n1 n2 n3 n4 n5 h1 h2
  have hB : Below w.heap.size w (w.alloc (.cells #[.int .i64 a, .int .i64 b, .string F, .int .i64 d] 32)) := (Below.refl _ w).alloc (Nat.le_refl _) _
  have y0 : (w.alloc (.cells #[.int .i64 a, .int .i64 b, .string F, .int .i64 d] 32)).cell? ⟨w.heap.size, 0, none⟩ = some (.int .i64 a) := by simp [go_sem]
  have y1 : (w.alloc (.cells #[.int .i64 a, .int .i64 b, .string F, .int .i64 d] 32)).cell? ⟨w.heap.size, 1, none⟩ = some (.int .i64 b) := by simp [go_sem]
  have y2 : (w.alloc (.cells #[.int .i64 a, .int .i64 b, .string F, .int .i64 d] 32)).cell? ⟨w.heap.size, 2, none⟩ = some (.string F) := by simp [go_sem]
  have y3 : (w.alloc (.cells #[.int .i64 a, .int .i64 b, .string F, .int .i64 d] 32)).cell? ⟨w.heap.size, 3, none⟩ = some (.int .i64 d) := by simp [go_sem]
  have z0 : w.heap.size < (w.alloc (.cells #[.int .i64 a, .int .i64 b, .string F, .int .i64 d] 32)).heap.size := by simp
  have hcase : (d = 1) ∨ (d = 2) ∨ ((d == 1) = false ∧ (d == 2) = false ∧ d ≠ 1 ∧ d ≠ 2) := by
    by_cases h1 : d = 1
    · exact .inl h1
    · by_cases h2 : d = 2
      · exact .inr (.inl h2)
      · exact .inr (.inr ⟨by simpa using h1, by simpa using h2, h1, h2⟩)
  unfold txtStr
  have hpost : (I ++ ⟨#[32]⟩ ++ F ++ (if d = 1 then ⟨#[32, 108, 101, 102, 116]⟩ else if d = 2 then ⟨#[32, 114, 105, 103, 104, 116]⟩ else ⟨#[]⟩) : ByteArray) = if d = 1 then I ++ ⟨#[32]⟩ ++ F ++ ⟨#[32, 108, 101, 102, 116]⟩ else if d = 2 then I ++ ⟨#[32]⟩ ++ F ++ ⟨#[32, 114, 105, 103, 104, 116]⟩ else I ++ ⟨#[32]⟩ ++ F := by
    split
    · rfl
    · split
      · rfl
      · exact e0
  rw [hpost]
  clear hpost e0
  rcases hcase with rfl | rfl | ⟨e1, e2, g1, g2⟩
  · rw [if_pos rfl]
    go_enter Tryd.func14, Tryd.ntmps14
    go_upto_region 1 with (fail)
    generalize w.alloc (.cells #[.int .i64 a, .int .i64 b, .string F, .int .i64 1] 32) = v at *
    have x0 := cell_regrown y0
    have x1 := cell_regrown y1
    have x2 := cell_regrown y2
    have k1 := fun dr os => (c1 (grow (redrawn v dr) os) (hB.trans ((below_regrown v dr os).mono (by omega)))).regrown_of
    refine wp_region_quiet_below (by kernel_rfl) (by kernel_rfl) ?_
    repeat (quiet_step ((go_at_call 25; (with_reducible exact k1 _ _))))
    refine wpQuiet_nil ?_
    intro _ hw'
    obtain ⟨⟨dq, osq⟩, hw''⟩ := hw'
    subst hw''
    clear k1 x0 x1 x2
    have hB2 := hB.trans ((below_regrown v dq osq).mono (by omega))
    have x3 := cell_regrown y3 dq osq
    generalize grow (redrawn v dq) osq = v2 at *
    clear y0 y1 y2 y3 c1
    go_wp2_with fail
    go_ret
    exact ⟨rfl, hB2⟩
  · rw [if_neg (by omega), if_pos rfl]
    go_enter Tryd.func14, Tryd.ntmps14
    go_upto_region 1 with (fail)
    generalize w.alloc (.cells #[.int .i64 a, .int .i64 b, .string F, .int .i64 2] 32) = v at *
    have x0 := cell_regrown y0
    have x1 := cell_regrown y1
    have x2 := cell_regrown y2
    have k1 := fun dr os => (c1 (grow (redrawn v dr) os) (hB.trans ((below_regrown v dr os).mono (by omega)))).regrown_of
    refine wp_region_quiet_below (by kernel_rfl) (by kernel_rfl) ?_
    repeat (quiet_step ((go_at_call 25; (with_reducible exact k1 _ _))))
    refine wpQuiet_nil ?_
    intro _ hw'
    obtain ⟨⟨dq, osq⟩, hw''⟩ := hw'
    subst hw''
    clear k1 x0 x1 x2
    have hB2 := hB.trans ((below_regrown v dq osq).mono (by omega))
    have x3 := cell_regrown y3 dq osq
    generalize grow (redrawn v dq) osq = v2 at *
    clear y0 y1 y2 y3 c1
    go_wp2_with fail
    go_ret
    exact ⟨rfl, hB2⟩
  · rw [if_neg g1, if_neg g2]
    clear g1 g2
    go_enter Tryd.func14, Tryd.ntmps14
    go_upto_region 1 with (fail)
    generalize w.alloc (.cells #[.int .i64 a, .int .i64 b, .string F, .int .i64 d] 32) = v at *
    have x0 := cell_regrown y0
    have x1 := cell_regrown y1
    have x2 := cell_regrown y2
    have k1 := fun dr os => (c1 (grow (redrawn v dr) os) (hB.trans ((below_regrown v dr os).mono (by omega)))).regrown_of
    refine wp_region_quiet_below (by kernel_rfl) (by kernel_rfl) ?_
    repeat (quiet_step ((go_at_call 25; (with_reducible exact k1 _ _))))
    refine wpQuiet_nil ?_
    intro _ hw'
    obtain ⟨⟨dq, osq⟩, hw''⟩ := hw'
    subst hw''
    clear k1 x0 x1 x2
    have hB2 := hB.trans ((below_regrown v dq osq).mono (by omega))
    have x3 := cell_regrown y3 dq osq
    generalize grow (redrawn v dq) osq = v2 at *
    clear y0 y1 y2 y3 c1
    go_wp2_with fail
    go_ret
    exact ⟨rfl, hB2⟩
end Go.Proofs.YtacoeahipklibaaDoor
