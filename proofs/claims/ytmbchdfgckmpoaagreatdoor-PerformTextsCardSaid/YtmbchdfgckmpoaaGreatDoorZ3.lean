/- The model's decimal: the text of a number. -/
import Derived.Test.YtmbchdfgckmpoaaGreatDoorZ2
import Derived.Deep.RegionWith
namespace Go.Proofs.YtmbchdfgckmpoaaGreatDoor
open Go.RowKit Go.Sort

theorem dig_small (n : Nat) (h : n < 10) : Lib.decDigits n = [UInt8.ofNat (48 + n)] := Lib.decDigits_one h
theorem dig_step (n : Nat) (h : ¬ n < 10) : Lib.decDigits n = Lib.decDigits (n / 10) ++ [UInt8.ofNat (48 + n % 10)] := by
  rw [Lib.decDigits, dif_neg h]
theorem byteStr (b : UInt8) (w : World) (g : Nat) (h : w.cell? ⟨g, 0, none⟩ = some (.int .u8 (b.toNat : Int))) :
    (convert 47 9 (.slice (some ⟨g, 0, none⟩) 1 1)).run Tryz.prog w = .ok (.string ⟨#[b]⟩) w :=
  run_convert_bytes_back (P := Tryz.prog) w 47 9 5 ⟨g, 0, none⟩ 1 [b] Tryz.underlying47 Tryz.underlying5 Tryz.underlying9 (fun j hj => by
    have : j = 0 := by simpa using hj
    subst this
    exact h)

set_option maxHeartbeats 4000000 in
theorem decimal0 (n : Nat) (w : World) (h : n < 10) : Calls Tryz.prog 22 #[.int .i64 n] w fun e w' => e = .returned (.string ⟨(Lib.decDigits n).toArray⟩) ∧ Below w.heap.size w w' := by
  rw [dig_small n h]
  have hb : ∀ v, Below w.heap.size w (w.alloc (.cells #[v] 5)) := fun v => (Below.refl _ w).alloc (Nat.le_refl _) _
  have hcv := byteStr (UInt8.ofNat (48 + n))
  obtain rfl | rfl | rfl | rfl | rfl | rfl | rfl | rfl | rfl | rfl : n = 0 ∨ n = 1 ∨ n = 2 ∨ n = 3 ∨ n = 4 ∨ n = 5 ∨ n = 6 ∨ n = 7 ∨ n = 8 ∨ n = 9 := by omega
  all_goals
    go_enter Tryz.func22, Tryz.ntmps22
    go_wp2_with fail
    go_ret
    exact ⟨rfl, hb _⟩


set_option maxHeartbeats 1000000 in
theorem decimalS0 (n m : Nat) (S : ByteArray) (hS : S.size ≤ 100) (w : World) (hn : 10 ≤ n) (hn2 : n < 9223372036854775808) (hm : n / 10 = m) (hr : n % 10 = 0)
    (ih : ∀ w', Calls Tryz.prog 22 #[.int .i64 m] w' fun e w'' => e = .returned (.string S) ∧ Below w'.heap.size w' w'') :
    Calls Tryz.prog 22 #[.int .i64 n] w fun e w' => e = .returned (.string (S ++ ⟨#[UInt8.ofNat (48 + 0)]⟩)) ∧ Below w.heap.size w w' := by
  have e1 : decide ((n : Int) < 10) = false := decide_eq_false (by omega)
  have e0 : decide ((n : Int) < 0) = false := decide_eq_false (by omega)
  have e2 : (n : Int) / 10 = (m : Nat) := by omega
  have e3 : (n : Int) % 10 = 0 := by omega
  have t2 : (n : Int).tdiv 10 = (m : Nat) := by rw [Int.tdiv_eq_ediv_of_nonneg (by omega)]; exact e2
  have t3 : (n : Int).tmod 10 = 0 := by rw [Int.tmod_eq_emod_of_nonneg (by omega)]; exact e3
  have k2 : IntKind.i64.wrap (m : Int) = (m : Int) := IntWalk.i64_in _ (by omega)
  have hcv := byteStr (UInt8.ofNat (48 + 0))
  have u1 : IntKind.u8.wrap 0 = 0 := rfl
  have u2 : IntKind.u8.wrap 48 = 48 := rfl
  clear hm hr hn hn2
  go_enter Tryz.func22, Tryz.ntmps22
  go_wp2_with fail
  go_region_with (go_at_call 22; (with_reducible refine (ih _).mono ?_); rintro e w1 ⟨rfl, hb1⟩; obtain ⟨hc1, hf1⟩ := bcell hb1)
  all_goals
    go_wp2_with fail
    go_ret
    first
      | exact ⟨rfl, ((Below.refl _ w).drew.trans hb1).alloc hb1.size _⟩
      | exact ⟨rfl, (((Below.refl _ w).alloc (Nat.le_refl _) _).drew).trans (hb1.mono (by show w.heap.size ≤ (w.alloc _).heap.size; simp))⟩

set_option maxHeartbeats 1000000 in
theorem decimalS1 (n m : Nat) (S : ByteArray) (hS : S.size ≤ 100) (w : World) (hn : 10 ≤ n) (hn2 : n < 9223372036854775808) (hm : n / 10 = m) (hr : n % 10 = 1)
    (ih : ∀ w', Calls Tryz.prog 22 #[.int .i64 m] w' fun e w'' => e = .returned (.string S) ∧ Below w'.heap.size w' w'') :
    Calls Tryz.prog 22 #[.int .i64 n] w fun e w' => e = .returned (.string (S ++ ⟨#[UInt8.ofNat (48 + 1)]⟩)) ∧ Below w.heap.size w w' := by
  have e1 : decide ((n : Int) < 10) = false := decide_eq_false (by omega)
  have e0 : decide ((n : Int) < 0) = false := decide_eq_false (by omega)
  have e2 : (n : Int) / 10 = (m : Nat) := by omega
  have e3 : (n : Int) % 10 = 1 := by omega
  have t2 : (n : Int).tdiv 10 = (m : Nat) := by rw [Int.tdiv_eq_ediv_of_nonneg (by omega)]; exact e2
  have t3 : (n : Int).tmod 10 = 1 := by rw [Int.tmod_eq_emod_of_nonneg (by omega)]; exact e3
  have k2 : IntKind.i64.wrap (m : Int) = (m : Int) := IntWalk.i64_in _ (by omega)
  have hcv := byteStr (UInt8.ofNat (48 + 1))
  have u1 : IntKind.u8.wrap 1 = 1 := rfl
  have u2 : IntKind.u8.wrap 49 = 49 := rfl
  clear hm hr hn hn2
  go_enter Tryz.func22, Tryz.ntmps22
  go_wp2_with fail
  go_region_with (go_at_call 22; (with_reducible refine (ih _).mono ?_); rintro e w1 ⟨rfl, hb1⟩; obtain ⟨hc1, hf1⟩ := bcell hb1)
  all_goals
    go_wp2_with fail
    go_ret
    first
      | exact ⟨rfl, ((Below.refl _ w).drew.trans hb1).alloc hb1.size _⟩
      | exact ⟨rfl, (((Below.refl _ w).alloc (Nat.le_refl _) _).drew).trans (hb1.mono (by show w.heap.size ≤ (w.alloc _).heap.size; simp))⟩

set_option maxHeartbeats 1000000 in
theorem decimalS2 (n m : Nat) (S : ByteArray) (hS : S.size ≤ 100) (w : World) (hn : 10 ≤ n) (hn2 : n < 9223372036854775808) (hm : n / 10 = m) (hr : n % 10 = 2)
    (ih : ∀ w', Calls Tryz.prog 22 #[.int .i64 m] w' fun e w'' => e = .returned (.string S) ∧ Below w'.heap.size w' w'') :
    Calls Tryz.prog 22 #[.int .i64 n] w fun e w' => e = .returned (.string (S ++ ⟨#[UInt8.ofNat (48 + 2)]⟩)) ∧ Below w.heap.size w w' := by
  have e1 : decide ((n : Int) < 10) = false := decide_eq_false (by omega)
  have e0 : decide ((n : Int) < 0) = false := decide_eq_false (by omega)
  have e2 : (n : Int) / 10 = (m : Nat) := by omega
  have e3 : (n : Int) % 10 = 2 := by omega
  have t2 : (n : Int).tdiv 10 = (m : Nat) := by rw [Int.tdiv_eq_ediv_of_nonneg (by omega)]; exact e2
  have t3 : (n : Int).tmod 10 = 2 := by rw [Int.tmod_eq_emod_of_nonneg (by omega)]; exact e3
  have k2 : IntKind.i64.wrap (m : Int) = (m : Int) := IntWalk.i64_in _ (by omega)
  have hcv := byteStr (UInt8.ofNat (48 + 2))
  have u1 : IntKind.u8.wrap 2 = 2 := rfl
  have u2 : IntKind.u8.wrap 50 = 50 := rfl
  clear hm hr hn hn2
  go_enter Tryz.func22, Tryz.ntmps22
  go_wp2_with fail
  go_region_with (go_at_call 22; (with_reducible refine (ih _).mono ?_); rintro e w1 ⟨rfl, hb1⟩; obtain ⟨hc1, hf1⟩ := bcell hb1)
  all_goals
    go_wp2_with fail
    go_ret
    first
      | exact ⟨rfl, ((Below.refl _ w).drew.trans hb1).alloc hb1.size _⟩
      | exact ⟨rfl, (((Below.refl _ w).alloc (Nat.le_refl _) _).drew).trans (hb1.mono (by show w.heap.size ≤ (w.alloc _).heap.size; simp))⟩

set_option maxHeartbeats 1000000 in
theorem decimalS3 (n m : Nat) (S : ByteArray) (hS : S.size ≤ 100) (w : World) (hn : 10 ≤ n) (hn2 : n < 9223372036854775808) (hm : n / 10 = m) (hr : n % 10 = 3)
    (ih : ∀ w', Calls Tryz.prog 22 #[.int .i64 m] w' fun e w'' => e = .returned (.string S) ∧ Below w'.heap.size w' w'') :
    Calls Tryz.prog 22 #[.int .i64 n] w fun e w' => e = .returned (.string (S ++ ⟨#[UInt8.ofNat (48 + 3)]⟩)) ∧ Below w.heap.size w w' := by
  have e1 : decide ((n : Int) < 10) = false := decide_eq_false (by omega)
  have e0 : decide ((n : Int) < 0) = false := decide_eq_false (by omega)
  have e2 : (n : Int) / 10 = (m : Nat) := by omega
  have e3 : (n : Int) % 10 = 3 := by omega
  have t2 : (n : Int).tdiv 10 = (m : Nat) := by rw [Int.tdiv_eq_ediv_of_nonneg (by omega)]; exact e2
  have t3 : (n : Int).tmod 10 = 3 := by rw [Int.tmod_eq_emod_of_nonneg (by omega)]; exact e3
  have k2 : IntKind.i64.wrap (m : Int) = (m : Int) := IntWalk.i64_in _ (by omega)
  have hcv := byteStr (UInt8.ofNat (48 + 3))
  have u1 : IntKind.u8.wrap 3 = 3 := rfl
  have u2 : IntKind.u8.wrap 51 = 51 := rfl
  clear hm hr hn hn2
  go_enter Tryz.func22, Tryz.ntmps22
  go_wp2_with fail
  go_region_with (go_at_call 22; (with_reducible refine (ih _).mono ?_); rintro e w1 ⟨rfl, hb1⟩; obtain ⟨hc1, hf1⟩ := bcell hb1)
  all_goals
    go_wp2_with fail
    go_ret
    first
      | exact ⟨rfl, ((Below.refl _ w).drew.trans hb1).alloc hb1.size _⟩
      | exact ⟨rfl, (((Below.refl _ w).alloc (Nat.le_refl _) _).drew).trans (hb1.mono (by show w.heap.size ≤ (w.alloc _).heap.size; simp))⟩

set_option maxHeartbeats 1000000 in
theorem decimalS4 (n m : Nat) (S : ByteArray) (hS : S.size ≤ 100) (w : World) (hn : 10 ≤ n) (hn2 : n < 9223372036854775808) (hm : n / 10 = m) (hr : n % 10 = 4)
    (ih : ∀ w', Calls Tryz.prog 22 #[.int .i64 m] w' fun e w'' => e = .returned (.string S) ∧ Below w'.heap.size w' w'') :
    Calls Tryz.prog 22 #[.int .i64 n] w fun e w' => e = .returned (.string (S ++ ⟨#[UInt8.ofNat (48 + 4)]⟩)) ∧ Below w.heap.size w w' := by
  have e1 : decide ((n : Int) < 10) = false := decide_eq_false (by omega)
  have e0 : decide ((n : Int) < 0) = false := decide_eq_false (by omega)
  have e2 : (n : Int) / 10 = (m : Nat) := by omega
  have e3 : (n : Int) % 10 = 4 := by omega
  have t2 : (n : Int).tdiv 10 = (m : Nat) := by rw [Int.tdiv_eq_ediv_of_nonneg (by omega)]; exact e2
  have t3 : (n : Int).tmod 10 = 4 := by rw [Int.tmod_eq_emod_of_nonneg (by omega)]; exact e3
  have k2 : IntKind.i64.wrap (m : Int) = (m : Int) := IntWalk.i64_in _ (by omega)
  have hcv := byteStr (UInt8.ofNat (48 + 4))
  have u1 : IntKind.u8.wrap 4 = 4 := rfl
  have u2 : IntKind.u8.wrap 52 = 52 := rfl
  clear hm hr hn hn2
  go_enter Tryz.func22, Tryz.ntmps22
  go_wp2_with fail
  go_region_with (go_at_call 22; (with_reducible refine (ih _).mono ?_); rintro e w1 ⟨rfl, hb1⟩; obtain ⟨hc1, hf1⟩ := bcell hb1)
  all_goals
    go_wp2_with fail
    go_ret
    first
      | exact ⟨rfl, ((Below.refl _ w).drew.trans hb1).alloc hb1.size _⟩
      | exact ⟨rfl, (((Below.refl _ w).alloc (Nat.le_refl _) _).drew).trans (hb1.mono (by show w.heap.size ≤ (w.alloc _).heap.size; simp))⟩

set_option maxHeartbeats 1000000 in
theorem decimalS5 (n m : Nat) (S : ByteArray) (hS : S.size ≤ 100) (w : World) (hn : 10 ≤ n) (hn2 : n < 9223372036854775808) (hm : n / 10 = m) (hr : n % 10 = 5)
    (ih : ∀ w', Calls Tryz.prog 22 #[.int .i64 m] w' fun e w'' => e = .returned (.string S) ∧ Below w'.heap.size w' w'') :
    Calls Tryz.prog 22 #[.int .i64 n] w fun e w' => e = .returned (.string (S ++ ⟨#[UInt8.ofNat (48 + 5)]⟩)) ∧ Below w.heap.size w w' := by
  have e1 : decide ((n : Int) < 10) = false := decide_eq_false (by omega)
  have e0 : decide ((n : Int) < 0) = false := decide_eq_false (by omega)
  have e2 : (n : Int) / 10 = (m : Nat) := by omega
  have e3 : (n : Int) % 10 = 5 := by omega
  have t2 : (n : Int).tdiv 10 = (m : Nat) := by rw [Int.tdiv_eq_ediv_of_nonneg (by omega)]; exact e2
  have t3 : (n : Int).tmod 10 = 5 := by rw [Int.tmod_eq_emod_of_nonneg (by omega)]; exact e3
  have k2 : IntKind.i64.wrap (m : Int) = (m : Int) := IntWalk.i64_in _ (by omega)
  have hcv := byteStr (UInt8.ofNat (48 + 5))
  have u1 : IntKind.u8.wrap 5 = 5 := rfl
  have u2 : IntKind.u8.wrap 53 = 53 := rfl
  clear hm hr hn hn2
  go_enter Tryz.func22, Tryz.ntmps22
  go_wp2_with fail
  go_region_with (go_at_call 22; (with_reducible refine (ih _).mono ?_); rintro e w1 ⟨rfl, hb1⟩; obtain ⟨hc1, hf1⟩ := bcell hb1)
  all_goals
    go_wp2_with fail
    go_ret
    first
      | exact ⟨rfl, ((Below.refl _ w).drew.trans hb1).alloc hb1.size _⟩
      | exact ⟨rfl, (((Below.refl _ w).alloc (Nat.le_refl _) _).drew).trans (hb1.mono (by show w.heap.size ≤ (w.alloc _).heap.size; simp))⟩

set_option maxHeartbeats 1000000 in
theorem decimalS6 (n m : Nat) (S : ByteArray) (hS : S.size ≤ 100) (w : World) (hn : 10 ≤ n) (hn2 : n < 9223372036854775808) (hm : n / 10 = m) (hr : n % 10 = 6)
    (ih : ∀ w', Calls Tryz.prog 22 #[.int .i64 m] w' fun e w'' => e = .returned (.string S) ∧ Below w'.heap.size w' w'') :
    Calls Tryz.prog 22 #[.int .i64 n] w fun e w' => e = .returned (.string (S ++ ⟨#[UInt8.ofNat (48 + 6)]⟩)) ∧ Below w.heap.size w w' := by
  have e1 : decide ((n : Int) < 10) = false := decide_eq_false (by omega)
  have e0 : decide ((n : Int) < 0) = false := decide_eq_false (by omega)
  have e2 : (n : Int) / 10 = (m : Nat) := by omega
  have e3 : (n : Int) % 10 = 6 := by omega
  have t2 : (n : Int).tdiv 10 = (m : Nat) := by rw [Int.tdiv_eq_ediv_of_nonneg (by omega)]; exact e2
  have t3 : (n : Int).tmod 10 = 6 := by rw [Int.tmod_eq_emod_of_nonneg (by omega)]; exact e3
  have k2 : IntKind.i64.wrap (m : Int) = (m : Int) := IntWalk.i64_in _ (by omega)
  have hcv := byteStr (UInt8.ofNat (48 + 6))
  have u1 : IntKind.u8.wrap 6 = 6 := rfl
  have u2 : IntKind.u8.wrap 54 = 54 := rfl
  clear hm hr hn hn2
  go_enter Tryz.func22, Tryz.ntmps22
  go_wp2_with fail
  go_region_with (go_at_call 22; (with_reducible refine (ih _).mono ?_); rintro e w1 ⟨rfl, hb1⟩; obtain ⟨hc1, hf1⟩ := bcell hb1)
  all_goals
    go_wp2_with fail
    go_ret
    first
      | exact ⟨rfl, ((Below.refl _ w).drew.trans hb1).alloc hb1.size _⟩
      | exact ⟨rfl, (((Below.refl _ w).alloc (Nat.le_refl _) _).drew).trans (hb1.mono (by show w.heap.size ≤ (w.alloc _).heap.size; simp))⟩

set_option maxHeartbeats 1000000 in
theorem decimalS7 (n m : Nat) (S : ByteArray) (hS : S.size ≤ 100) (w : World) (hn : 10 ≤ n) (hn2 : n < 9223372036854775808) (hm : n / 10 = m) (hr : n % 10 = 7)
    (ih : ∀ w', Calls Tryz.prog 22 #[.int .i64 m] w' fun e w'' => e = .returned (.string S) ∧ Below w'.heap.size w' w'') :
    Calls Tryz.prog 22 #[.int .i64 n] w fun e w' => e = .returned (.string (S ++ ⟨#[UInt8.ofNat (48 + 7)]⟩)) ∧ Below w.heap.size w w' := by
  have e1 : decide ((n : Int) < 10) = false := decide_eq_false (by omega)
  have e0 : decide ((n : Int) < 0) = false := decide_eq_false (by omega)
  have e2 : (n : Int) / 10 = (m : Nat) := by omega
  have e3 : (n : Int) % 10 = 7 := by omega
  have t2 : (n : Int).tdiv 10 = (m : Nat) := by rw [Int.tdiv_eq_ediv_of_nonneg (by omega)]; exact e2
  have t3 : (n : Int).tmod 10 = 7 := by rw [Int.tmod_eq_emod_of_nonneg (by omega)]; exact e3
  have k2 : IntKind.i64.wrap (m : Int) = (m : Int) := IntWalk.i64_in _ (by omega)
  have hcv := byteStr (UInt8.ofNat (48 + 7))
  have u1 : IntKind.u8.wrap 7 = 7 := rfl
  have u2 : IntKind.u8.wrap 55 = 55 := rfl
  clear hm hr hn hn2
  go_enter Tryz.func22, Tryz.ntmps22
  go_wp2_with fail
  go_region_with (go_at_call 22; (with_reducible refine (ih _).mono ?_); rintro e w1 ⟨rfl, hb1⟩; obtain ⟨hc1, hf1⟩ := bcell hb1)
  all_goals
    go_wp2_with fail
    go_ret
    first
      | exact ⟨rfl, ((Below.refl _ w).drew.trans hb1).alloc hb1.size _⟩
      | exact ⟨rfl, (((Below.refl _ w).alloc (Nat.le_refl _) _).drew).trans (hb1.mono (by show w.heap.size ≤ (w.alloc _).heap.size; simp))⟩

set_option maxHeartbeats 1000000 in
theorem decimalS8 (n m : Nat) (S : ByteArray) (hS : S.size ≤ 100) (w : World) (hn : 10 ≤ n) (hn2 : n < 9223372036854775808) (hm : n / 10 = m) (hr : n % 10 = 8)
    (ih : ∀ w', Calls Tryz.prog 22 #[.int .i64 m] w' fun e w'' => e = .returned (.string S) ∧ Below w'.heap.size w' w'') :
    Calls Tryz.prog 22 #[.int .i64 n] w fun e w' => e = .returned (.string (S ++ ⟨#[UInt8.ofNat (48 + 8)]⟩)) ∧ Below w.heap.size w w' := by
  have e1 : decide ((n : Int) < 10) = false := decide_eq_false (by omega)
  have e0 : decide ((n : Int) < 0) = false := decide_eq_false (by omega)
  have e2 : (n : Int) / 10 = (m : Nat) := by omega
  have e3 : (n : Int) % 10 = 8 := by omega
  have t2 : (n : Int).tdiv 10 = (m : Nat) := by rw [Int.tdiv_eq_ediv_of_nonneg (by omega)]; exact e2
  have t3 : (n : Int).tmod 10 = 8 := by rw [Int.tmod_eq_emod_of_nonneg (by omega)]; exact e3
  have k2 : IntKind.i64.wrap (m : Int) = (m : Int) := IntWalk.i64_in _ (by omega)
  have hcv := byteStr (UInt8.ofNat (48 + 8))
  have u1 : IntKind.u8.wrap 8 = 8 := rfl
  have u2 : IntKind.u8.wrap 56 = 56 := rfl
  clear hm hr hn hn2
  go_enter Tryz.func22, Tryz.ntmps22
  go_wp2_with fail
  go_region_with (go_at_call 22; (with_reducible refine (ih _).mono ?_); rintro e w1 ⟨rfl, hb1⟩; obtain ⟨hc1, hf1⟩ := bcell hb1)
  all_goals
    go_wp2_with fail
    go_ret
    first
      | exact ⟨rfl, ((Below.refl _ w).drew.trans hb1).alloc hb1.size _⟩
      | exact ⟨rfl, (((Below.refl _ w).alloc (Nat.le_refl _) _).drew).trans (hb1.mono (by show w.heap.size ≤ (w.alloc _).heap.size; simp))⟩

set_option maxHeartbeats 1000000 in
theorem decimalS9 (n m : Nat) (S : ByteArray) (hS : S.size ≤ 100) (w : World) (hn : 10 ≤ n) (hn2 : n < 9223372036854775808) (hm : n / 10 = m) (hr : n % 10 = 9)
    (ih : ∀ w', Calls Tryz.prog 22 #[.int .i64 m] w' fun e w'' => e = .returned (.string S) ∧ Below w'.heap.size w' w'') :
    Calls Tryz.prog 22 #[.int .i64 n] w fun e w' => e = .returned (.string (S ++ ⟨#[UInt8.ofNat (48 + 9)]⟩)) ∧ Below w.heap.size w w' := by
  have e1 : decide ((n : Int) < 10) = false := decide_eq_false (by omega)
  have e0 : decide ((n : Int) < 0) = false := decide_eq_false (by omega)
  have e2 : (n : Int) / 10 = (m : Nat) := by omega
  have e3 : (n : Int) % 10 = 9 := by omega
  have t2 : (n : Int).tdiv 10 = (m : Nat) := by rw [Int.tdiv_eq_ediv_of_nonneg (by omega)]; exact e2
  have t3 : (n : Int).tmod 10 = 9 := by rw [Int.tmod_eq_emod_of_nonneg (by omega)]; exact e3
  have k2 : IntKind.i64.wrap (m : Int) = (m : Int) := IntWalk.i64_in _ (by omega)
  have hcv := byteStr (UInt8.ofNat (48 + 9))
  have u1 : IntKind.u8.wrap 9 = 9 := rfl
  have u2 : IntKind.u8.wrap 57 = 57 := rfl
  clear hm hr hn hn2
  go_enter Tryz.func22, Tryz.ntmps22
  go_wp2_with fail
  go_region_with (go_at_call 22; (with_reducible refine (ih _).mono ?_); rintro e w1 ⟨rfl, hb1⟩; obtain ⟨hc1, hf1⟩ := bcell hb1)
  all_goals
    go_wp2_with fail
    go_ret
    first
      | exact ⟨rfl, ((Below.refl _ w).drew.trans hb1).alloc hb1.size _⟩
      | exact ⟨rfl, (((Below.refl _ w).alloc (Nat.le_refl _) _).drew).trans (hb1.mono (by show w.heap.size ≤ (w.alloc _).heap.size; simp))⟩

theorem str_snoc (D : List UInt8) (b : UInt8) : (⟨D.toArray⟩ ++ ⟨#[b]⟩ : ByteArray) = ⟨(D ++ [b]).toArray⟩ := by
  rw [show (#[b] : Array UInt8) = [b].toArray from rfl, ByteArray.mk_append_mk]
theorem decimalM : ∀ (n : Nat) (w : World), n < 9223372036854775808 → Calls Tryz.prog 22 #[.int .i64 n] w fun e w' => e = .returned (.string ⟨(Lib.decDigits n).toArray⟩) ∧ Below w.heap.size w w' := by
  intro n
  induction n using Nat.strongRecOn with
  | _ n ih =>
    intro w hn
    by_cases h : n < 10
    · exact decimal0 n w h
    · have ih' := fun w' => ih (n / 10) (by omega) w' (by omega)
      have hl : (⟨(Lib.decDigits (n / 10)).toArray⟩ : ByteArray).size ≤ 100 := by
        have h1 := Lib.nDigits_le20 (n / 10) (by omega)
        have h2 := Lib.decDigits_length (n / 10)
        show (Lib.decDigits (n / 10)).toArray.size ≤ 100
        simp; omega
      rw [dig_step n h, ← str_snoc]
      have hr : n % 10 < 10 := Nat.mod_lt _ (by omega)
      obtain ⟨r, hr'⟩ : ∃ r, n % 10 = r := ⟨_, rfl⟩
      rw [hr']
      rw [hr'] at hr
      obtain rfl | rfl | rfl | rfl | rfl | rfl | rfl | rfl | rfl | rfl : r = 0 ∨ r = 1 ∨ r = 2 ∨ r = 3 ∨ r = 4 ∨ r = 5 ∨ r = 6 ∨ r = 7 ∨ r = 8 ∨ r = 9 := by omega
      · exact decimalS0 n (n / 10) _ hl w (by omega) hn rfl hr' ih'
      · exact decimalS1 n (n / 10) _ hl w (by omega) hn rfl hr' ih'
      · exact decimalS2 n (n / 10) _ hl w (by omega) hn rfl hr' ih'
      · exact decimalS3 n (n / 10) _ hl w (by omega) hn rfl hr' ih'
      · exact decimalS4 n (n / 10) _ hl w (by omega) hn rfl hr' ih'
      · exact decimalS5 n (n / 10) _ hl w (by omega) hn rfl hr' ih'
      · exact decimalS6 n (n / 10) _ hl w (by omega) hn rfl hr' ih'
      · exact decimalS7 n (n / 10) _ hl w (by omega) hn rfl hr' ih'
      · exact decimalS8 n (n / 10) _ hl w (by omega) hn rfl hr' ih'
      · exact decimalS9 n (n / 10) _ hl w (by omega) hn rfl hr' ih'
end Go.Proofs.YtmbchdfgckmpoaaGreatDoor
