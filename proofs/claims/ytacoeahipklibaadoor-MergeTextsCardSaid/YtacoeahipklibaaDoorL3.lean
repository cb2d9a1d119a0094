/- MergeTexts: walk. -/
import Derived.Test.YtacoeahipklibaaDoorD4
import Derived.Test.YtacoeahipklibaaDoorK1
namespace Go.Proofs.YtacoeahipklibaaDoor
open Go.RowKit Go.Sort

theorem less_irrefl : ∀ l : List UInt8, Op.bytesLess l l = false
  | [] => rfl
  | x :: l => by
    have := less_irrefl l
    simp [Op.bytesLess, this]
theorem cl_eq (a1 a2 a3 b1 b2 b3 : Int) (A B : ByteArray) : cl [a1, a2, if !Op.bytesLess A.toList B.toList && !(A.toList == B.toList) then 1 else 0, a3] [b1, b2, if Op.bytesLess A.toList B.toList then 1 else 0, b3] 4 0 = firstNZ [cmpI a1 b1, cmpI a2 b2, cmpS A B, cmpI a3 b3] := by
  have key : ∀ (p q : Int) (r s : Int), (if p < q then -1 else if q < p then 1 else r) = if cmpI p q = 0 then r else cmpI p q := by
    intro p q r _
    unfold cmpI sgn
    by_cases h1 : p < q
    · simp [h1]
    · by_cases h2 : q < p
      · simp [h1, h2]
      · simp [h1, h2]
  show (if a1 < b1 then -1 else if b1 < a1 then 1 else (if a2 < b2 then -1 else if b2 < a2 then 1 else (if (if !Op.bytesLess A.toList B.toList && !(A.toList == B.toList) then (1 : Int) else 0) < (if Op.bytesLess A.toList B.toList then 1 else 0) then -1 else if (if Op.bytesLess A.toList B.toList then (1 : Int) else 0) < (if !Op.bytesLess A.toList B.toList && !(A.toList == B.toList) then 1 else 0) then 1 else (if a3 < b3 then -1 else if b3 < a3 then 1 else 0)))) = _
  rw [key a1 b1 _ 0, key a2 b2 _ 0, key a3 b3 _ 0]
  unfold firstNZ firstNZ firstNZ firstNZ firstNZ cmpS less sgn
  cases h1 : Op.bytesLess A.toList B.toList
  · cases h2 : (A.toList == B.toList)
    · simp
    · simp
  · simp

set_option maxHeartbeats 2000000 in
theorem textsBad (a1 a2 a3 b1 b2 b3 : Int) (A B : ByteArray) (w : World) (h : a1 < 0 ∨ (0 ≤ a1 ∧ a2 < 0) ∨ (0 ≤ a1 ∧ 0 ≤ a2 ∧ 100 < A.size) ∨ (0 ≤ a1 ∧ 0 ≤ a2 ∧ A.size ≤ 100 ∧ 100 < B.size)) :
    Calls Tryd.prog 5 #[.agg #[.int .i64 a1, .int .i64 a2, .string A, .int .i64 a3], .agg #[.int .i64 b1, .int .i64 b2, .string B, .int .i64 b3]] w fun r w' => r = .returned (.bool true) ∧ Below w.heap.size w w' := by
  have hB : Below w.heap.size w ((w.alloc (.cells #[.int .i64 a1, .int .i64 a2, .string A, .int .i64 a3] 32)).alloc (.cells #[.int .i64 b1, .int .i64 b2, .string B, .int .i64 b3] 32)) := ((Below.refl _ w).alloc (Nat.le_refl _) _).alloc (by simp) _
  have hP : PK a1 a2 a3 b1 b2 b3 A B ((w.alloc (.cells #[.int .i64 a1, .int .i64 a2, .string A, .int .i64 a3] 32)).alloc (.cells #[.int .i64 b1, .int .i64 b2, .string B, .int .i64 b3] 32)) w.heap.size := by
    refine ⟨?_, ?_, ?_, ?_, ?_, ?_, ?_, ?_⟩ <;> simp [go_sem]
  have hS : ((w.alloc (.cells #[.int .i64 a1, .int .i64 a2, .string A, .int .i64 a3] 32)).alloc (.cells #[.int .i64 b1, .int .i64 b2, .string B, .int .i64 b3] 32)).heap.size = w.heap.size + 2 := by simp
  have hcase : (decide (a1 < 0) = true) ∨ (decide (a1 < 0) = false ∧ decide (a2 < 0) = true) ∨ (decide (a1 < 0) = false ∧ decide (a2 < 0) = false ∧ decide ((100 : Int) < A.size) = true) ∨ (decide (a1 < 0) = false ∧ decide (a2 < 0) = false ∧ decide ((100 : Int) < A.size) = false ∧ decide ((100 : Int) < B.size) = true) := by
    simp only [decide_eq_true_eq, decide_eq_false_iff_not]
    omega
  clear h
  rcases hcase with e1 | ⟨e1, e2⟩ | ⟨e1, e2, e3⟩ | ⟨e1, e2, e3, e4⟩
  all_goals
    go_enter Tryd.func5, Tryd.ntmps5
    go_upto_region 1 with (fail)
    generalize (w.alloc (.cells #[.int .i64 a1, .int .i64 a2, .string A, .int .i64 a3] 32)).alloc (.cells #[.int .i64 b1, .int .i64 b2, .string B, .int .i64 b3] 32) = v at *
    go_wp2_with fail
    refine (known _).mono ?_
    rintro e w1 ⟨rfl, hb1⟩
    obtain ⟨z0, z1, z2, z3, z4, z5, z6, z7⟩ := hP.below hS hb1
    have hB1 := hB.trans (hb1.mono hB.size)
    go_wp2_with fail
    refine (known _).mono ?_
    rintro e w3 ⟨rfl, hb3⟩
    go_wp2_with fail
    go_ret
    exact ⟨rfl, hB1.trans (hb3.mono hB1.size)⟩

def sideStr (d : Int) : ByteArray := if d = 1 then ⟨#[32, 108, 101, 102, 116]⟩ else if d = 2 then ⟨#[32, 114, 105, 103, 104, 116]⟩ else ⟨#[]⟩

set_option maxHeartbeats 4000000 in
theorem textsGood (a1 a2 a3 b1 b2 b3 : Int) (A B : ByteArray) (w : World) (hT : Tab w) (h1 : 0 ≤ a1) (h2 : 0 ≤ a2) (hA : A.size ≤ 100) (hBs : B.size ≤ 100) (m1 : a1 ≤ 9223372036854775807) (m2 : a2 ≤ 9223372036854775807) :
    Calls Tryd.prog 5 #[.agg #[.int .i64 a1, .int .i64 a2, .string A, .int .i64 a3], .agg #[.int .i64 b1, .int .i64 b2, .string B, .int .i64 b3]] w fun r w' => r = .returned (.bool true) ∧ Below w.heap.size w w' := by
  have hB : Below w.heap.size w ((w.alloc (.cells #[.int .i64 a1, .int .i64 a2, .string A, .int .i64 a3] 32)).alloc (.cells #[.int .i64 b1, .int .i64 b2, .string B, .int .i64 b3] 32)) := ((Below.refl _ w).alloc (Nat.le_refl _) _).alloc (by simp) _
  have hP : PK a1 a2 a3 b1 b2 b3 A B ((w.alloc (.cells #[.int .i64 a1, .int .i64 a2, .string A, .int .i64 a3] 32)).alloc (.cells #[.int .i64 b1, .int .i64 b2, .string B, .int .i64 b3] 32)) w.heap.size := by
    refine ⟨?_, ?_, ?_, ?_, ?_, ?_, ?_, ?_⟩ <;> simp [go_sem]
  have hS : ((w.alloc (.cells #[.int .i64 a1, .int .i64 a2, .string A, .int .i64 a3] 32)).alloc (.cells #[.int .i64 b1, .int .i64 b2, .string B, .int .i64 b3] 32)).heap.size = w.heap.size + 2 := by simp
  have d1 : decide (a1 < 0) = false := decide_eq_false (by omega)
  have d2 : decide (a2 < 0) = false := decide_eq_false (by omega)
  have d3 : decide ((100 : Int) < A.size) = false := decide_eq_false (by omega)
  have d4 : decide ((100 : Int) < B.size) = false := decide_eq_false (by omega)
  have s1 := itoa_size a1 (by omega) m1
  have s2 := itoa_size a2 (by omega) m2
  have i1 := fun w h => itoaC a1 w h (by omega) m1
  have i2 := fun w h => itoaC a2 w h (by omega) m2
  have j1 := fun w => decimalZ a1 w h1 m1
  have j2 := fun w => decimalZ a2 w h2 m2
  generalize (⟨(Lib.itoa a1).toArray⟩ : ByteArray) = S1 at *
  generalize (⟨(Lib.itoa a2).toArray⟩ : ByteArray) = S2 at *
  have c15 := fun w => nameS a1 a2 S1 S2 s1 s2 w j1 j2
  have c25 := fun w hT => idTextS a1 a2 S1 S2 s1 s2 w hT i1 i2
  have sI : (idStr S1 S2).size ≤ 300 := by
    have n1 : (⟨#[64]⟩ : ByteArray).size = 1 := rfl
    have n2 : (⟨#[46]⟩ : ByteArray).size = 1 := rfl
    unfold idStr
    rw [ByteArray.size_append, ByteArray.size_append, ByteArray.size_append]
    omega
  generalize idStr S1 S2 = I at *
  have c14 := fun (w : World) (hT : Tab w) => textS a1 a2 a3 I A sI hA w (fun w' hb => c25 w' (hT.below hb))
  have c12 := fun w => compareP a1 a2 a3 b1 b2 b3 A B w
  have c13 := fun w => compareM a1 a2 a3 b1 b2 b3 A B w _ _ rfl rfl (fun h => by
    cases he : (A.toList == B.toList)
    · rfl
    · rw [eq_of_beq he, less_irrefl] at h; cases h)
  rw [cl_eq] at c13
  generalize firstNZ [cmpI a1 b1, cmpI a2 b2, cmpS A B, cmpI a3 b3] = cr at *
  change ∀ w, Tab w → Calls Tryd.prog 14 _ w (fun e w' => e = .returned (.string (txtStr I A (sideStr a3))) ∧ Below w.heap.size w w') at c14
  have n1 : (⟨#[32]⟩ : ByteArray).size = 1 := rfl
  have n3 := ByteArray.size_append (a := I) (b := ⟨#[32]⟩)
  have n4 := ByteArray.size_append (a := I ++ ⟨#[32]⟩) (b := A)
  have n5 : (sideStr a3).size ≤ 6 := by
    unfold sideStr
    split
    · exact Nat.le_of_ble_eq_true rfl
    · split
      · exact Nat.le_of_ble_eq_true rfl
      · exact Nat.le_of_ble_eq_true rfl
  have r1 := fun w => run_string_add (P := Tryd.prog) w I ⟨#[32]⟩ (by omega) (by omega)
  have r2 := fun w => run_string_add (P := Tryd.prog) w (I ++ ⟨#[32]⟩) A (by omega) (by omega)
  have r3 := fun w => run_string_add (P := Tryd.prog) w (I ++ ⟨#[32]⟩ ++ A) (sideStr a3) (by omega) (by omega)
  change ∀ w, (Op.stringOp .add (I ++ ⟨#[32]⟩ ++ A) (sideStr a3)).run Tryd.prog w = .ok (.string (txtStr I A (sideStr a3))) w at r3
  generalize txtStr I A (sideStr a3) = TT at *
  have hcase : (a3 = 1) ∨ (a3 = 2) ∨ ((a3 == 1) = false ∧ (a3 == 2) = false ∧ sideStr a3 = ⟨#[]⟩) := by
    by_cases h1 : a3 = 1
    · exact .inl h1
    · by_cases h2 : a3 = 2
      · exact .inr (.inl h2)
      · exact .inr (.inr ⟨by simpa using h1, by simpa using h2, by unfold sideStr; rw [if_neg h1, if_neg h2]⟩)
  clear n1 n3 n4 n5 h1 h2 hA hBs m1 m2 s1 s2 i1 i2 j1 j2 c25 sI
  rcases hcase with rfl | rfl | ⟨e1, e2, e3⟩
  · have e3 : sideStr 1 = ⟨#[32, 108, 101, 102, 116]⟩ := rfl
    rw [e3] at r3
    clear e3
    go_enter Tryd.func5, Tryd.ntmps5
    go_upto_region 1 with (fail)
    generalize (w.alloc (.cells #[.int .i64 a1, .int .i64 a2, .string A, .int .i64 1] 32)).alloc (.cells #[.int .i64 b1, .int .i64 b2, .string B, .int .i64 b3] 32) = v at *
    go_wp2_with fail
    refine (known _).mono ?_
    rintro e w1 ⟨rfl, hb1⟩
    obtain ⟨z0, z1, z2, z3, z4, z5, z6, z7⟩ := hP.below hS hb1
    have hB1 := hB.trans (hb1.mono hB.size)
    have hT1 := (hT.below hB1)
    clear hB hP hS hb1 hT
    go_wp2_with fail
    have x0 := cell_regrown z0
    have x1 := cell_regrown z1
    have x2 := cell_regrown z2
    have x3 := cell_regrown z3
    have x4 := cell_regrown z4
    have x5 := cell_regrown z5
    have x6 := cell_regrown z6
    have x7 := cell_regrown z7
    have k12 := fun d os => (c12 (grow (redrawn w1 d) os)).regrown_of
    have k13 := fun d os => (c13 (grow (redrawn w1 d) os)).regrown_of
    have k14 := fun d os => (c14 (grow (redrawn w1 d) os) (hT1.below (below_regrown w1 d os))).regrown_of
    have k15 := fun d os => (c15 (grow (redrawn w1 d) os)).regrown_of
    refine wp_region_quiet_below (by kernel_rfl) (by kernel_rfl) ?_
    repeat (quiet_step (first | (go_at_call 12; (with_reducible exact k12 _ _)) | (go_at_call 13; (with_reducible exact k13 _ _)) | (go_at_call 14; (with_reducible exact k14 _ _)) | (go_at_call 15; (with_reducible exact k15 _ _))))
    refine wpQuiet_nil ?_
    intro _ hw'
    obtain ⟨⟨dq, osq⟩, hw''⟩ := hw'
    subst hw''
    go_wp2_with fail
    go_ret
    exact ⟨rfl, hB1.trans ((below_regrown w1 dq osq).mono hB1.size)⟩
  · have e3 : sideStr 2 = ⟨#[32, 114, 105, 103, 104, 116]⟩ := rfl
    rw [e3] at r3
    clear e3
    go_enter Tryd.func5, Tryd.ntmps5
    go_upto_region 1 with (fail)
    generalize (w.alloc (.cells #[.int .i64 a1, .int .i64 a2, .string A, .int .i64 2] 32)).alloc (.cells #[.int .i64 b1, .int .i64 b2, .string B, .int .i64 b3] 32) = v at *
    go_wp2_with fail
    refine (known _).mono ?_
    rintro e w1 ⟨rfl, hb1⟩
    obtain ⟨z0, z1, z2, z3, z4, z5, z6, z7⟩ := hP.below hS hb1
    have hB1 := hB.trans (hb1.mono hB.size)
    have hT1 := (hT.below hB1)
    clear hB hP hS hb1 hT
    go_wp2_with fail
    have x0 := cell_regrown z0
    have x1 := cell_regrown z1
    have x2 := cell_regrown z2
    have x3 := cell_regrown z3
    have x4 := cell_regrown z4
    have x5 := cell_regrown z5
    have x6 := cell_regrown z6
    have x7 := cell_regrown z7
    have k12 := fun d os => (c12 (grow (redrawn w1 d) os)).regrown_of
    have k13 := fun d os => (c13 (grow (redrawn w1 d) os)).regrown_of
    have k14 := fun d os => (c14 (grow (redrawn w1 d) os) (hT1.below (below_regrown w1 d os))).regrown_of
    have k15 := fun d os => (c15 (grow (redrawn w1 d) os)).regrown_of
    refine wp_region_quiet_below (by kernel_rfl) (by kernel_rfl) ?_
    repeat (quiet_step (first | (go_at_call 12; (with_reducible exact k12 _ _)) | (go_at_call 13; (with_reducible exact k13 _ _)) | (go_at_call 14; (with_reducible exact k14 _ _)) | (go_at_call 15; (with_reducible exact k15 _ _))))
    refine wpQuiet_nil ?_
    intro _ hw'
    obtain ⟨⟨dq, osq⟩, hw''⟩ := hw'
    subst hw''
    go_wp2_with fail
    go_ret
    exact ⟨rfl, hB1.trans ((below_regrown w1 dq osq).mono hB1.size)⟩
  · rw [e3] at r3
    clear e3
    go_enter Tryd.func5, Tryd.ntmps5
    go_upto_region 1 with (fail)
    generalize (w.alloc (.cells #[.int .i64 a1, .int .i64 a2, .string A, .int .i64 a3] 32)).alloc (.cells #[.int .i64 b1, .int .i64 b2, .string B, .int .i64 b3] 32) = v at *
    go_wp2_with fail
    refine (known _).mono ?_
    rintro e w1 ⟨rfl, hb1⟩
    obtain ⟨z0, z1, z2, z3, z4, z5, z6, z7⟩ := hP.below hS hb1
    have hB1 := hB.trans (hb1.mono hB.size)
    have hT1 := (hT.below hB1)
    clear hB hP hS hb1 hT
    go_wp2_with fail
    have x0 := cell_regrown z0
    have x1 := cell_regrown z1
    have x2 := cell_regrown z2
    have x3 := cell_regrown z3
    have x4 := cell_regrown z4
    have x5 := cell_regrown z5
    have x6 := cell_regrown z6
    have x7 := cell_regrown z7
    have k12 := fun d os => (c12 (grow (redrawn w1 d) os)).regrown_of
    have k13 := fun d os => (c13 (grow (redrawn w1 d) os)).regrown_of
    have k14 := fun d os => (c14 (grow (redrawn w1 d) os) (hT1.below (below_regrown w1 d os))).regrown_of
    have k15 := fun d os => (c15 (grow (redrawn w1 d) os)).regrown_of
    refine wp_region_quiet_below (by kernel_rfl) (by kernel_rfl) ?_
    repeat (quiet_step (first | (go_at_call 12; (with_reducible exact k12 _ _)) | (go_at_call 13; (with_reducible exact k13 _ _)) | (go_at_call 14; (with_reducible exact k14 _ _)) | (go_at_call 15; (with_reducible exact k15 _ _))))
    refine wpQuiet_nil ?_
    intro _ hw'
    obtain ⟨⟨dq, osq⟩, hw''⟩ := hw'
    subst hw''
    go_wp2_with fail
    go_ret
    exact ⟨rfl, hB1.trans ((below_regrown w1 dq osq).mono hB1.size)⟩

theorem textsC (a1 a2 a3 b1 b2 b3 : Int) (A B : ByteArray) (w : World) (hT : Tab w) (m1 : a1 ≤ 9223372036854775807) (m2 : a2 ≤ 9223372036854775807) :
    Calls Tryd.prog 5 #[.agg #[.int .i64 a1, .int .i64 a2, .string A, .int .i64 a3], .agg #[.int .i64 b1, .int .i64 b2, .string B, .int .i64 b3]] w fun r w' => r = .returned (.bool true) ∧ Below w.heap.size w w' := by
  by_cases h : 0 ≤ a1 ∧ 0 ≤ a2 ∧ A.size ≤ 100 ∧ B.size ≤ 100
  · exact textsGood a1 a2 a3 b1 b2 b3 A B w hT h.1 h.2.1 h.2.2.1 h.2.2.2 m1 m2
  · exact textsBad a1 a2 a3 b1 b2 b3 A B w (by omega)
end Go.Proofs.YtacoeahipklibaaDoor
