/- Contracts: metre.Check. -/
import Derived.Test.YtaklcnhenapckaaA2
namespace Go.Proofs.Ytaklcnhenapckaa
open Go.RowKit

def groupsF (count : Int) : List Int → Int → Int → Int → Bool
  | [], _, sum, n => decide (sum = count ∧ 2 ≤ n)
  | g :: l, i, sum, n => if g < 0 ∨ 64 < g ∨ (0 < g ∧ i ≠ n) then false else if 0 < g then groupsF count l (i + 1) (sum + g) (n + 1) else groupsF count l (i + 1) sum n

def groupedF (c g0 g1 g2 g3 g4 g5 : Int) : Bool :=
  if g0 = 0 ∧ g1 = 0 ∧ g2 = 0 ∧ g3 = 0 ∧ g4 = 0 ∧ g5 = 0 then true else groupsF c [g0, g1, g2, g3, g4, g5] 0 0 0

abbrev metreV (c u g0 g1 g2 g3 g4 g5 : Int) : Value := .agg #[.int .i64 c, .int .i64 u, .int .i64 g0, .int .i64 g1, .int .i64 g2, .int .i64 g3, .int .i64 g4, .int .i64 g5]

def gAt (L : List Int) (k : Nat) : Int := L.getD k 0
theorem drop_step (g0 g1 g2 g3 g4 g5 : Int) (k : Nat) (h : k < 6) : [g0, g1, g2, g3, g4, g5].drop k = gAt [g0, g1, g2, g3, g4, g5] k :: [g0, g1, g2, g3, g4, g5].drop (k + 1) := by
  have h : k = 0 ∨ k = 1 ∨ k = 2 ∨ k = 3 ∨ k = 4 ∨ k = 5 := by omega
  rcases h with rfl | rfl | rfl | rfl | rfl | rfl <;> rfl

theorem grpIx (g0 g1 g2 g3 g4 g5 : Int) (k : Nat) (h : k < 6) (W : World) : (Instr.index 37 (.agg #[.int .i64 g0, .int .i64 g1, .int .i64 g2, .int .i64 g3, .int .i64 g4, .int .i64 g5]) (.int .i64 (k : Int))).run Try.prog W = .ok (.int .i64 (gAt [g0, g1, g2, g3, g4, g5] k)) W := by
  have h : ∀ (n : Nat) (v : Int), (n, v) ∈ [((0 : Nat), g0), (1, g1), (2, g2), (3, g3), (4, g4), (5, g5)] → (Instr.index 37 (.agg #[.int .i64 g0, .int .i64 g1, .int .i64 g2, .int .i64 g3, .int .i64 g4, .int .i64 g5]) (.int .i64 (n : Int))).run Try.prog W = .ok (.int .i64 v) W := by
    intro n v h
    simp only [List.mem_cons, Prod.mk.injEq, List.not_mem_nil, or_false] at h
    rcases h with ⟨rfl, rfl⟩ | ⟨rfl, rfl⟩ | ⟨rfl, rfl⟩ | ⟨rfl, rfl⟩ | ⟨rfl, rfl⟩ | ⟨rfl, rfl⟩ <;> kernel_rfl
  apply h
  have h : k = 0 ∨ k = 1 ∨ k = 2 ∨ k = 3 ∨ k = 4 ∨ k = 5 := by omega
  rcases h with rfl | rfl | rfl | rfl | rfl | rfl <;> simp [gAt]

def allz (g0 g1 g2 g3 g4 g5 : Int) : Bool := decide (g0 = 0 ∧ g1 = 0 ∧ g2 = 0 ∧ g3 = 0 ∧ g4 = 0 ∧ g5 = 0)

theorem eq37 (g0 g1 g2 g3 g4 g5 : Int) (w : World) : (Op.equalIn 10000 37 (.agg #[.int .i64 g0, .int .i64 g1, .int .i64 g2, .int .i64 g3, .int .i64 g4, .int .i64 g5]) (.agg #[.int .i64 0, .int .i64 0, .int .i64 0, .int .i64 0, .int .i64 0, .int .i64 0])).run Try.prog w
   = .ok (allz g0 g1 g2 g3 g4 g5) w := by
  have u3 := Try.underlying3
  have a3 := Try.isAgg3
  have z3 := Try.sizeOf3
  rw [show (10000 : Nat) = 9999 + 1 from rfl, Op.equalIn]
  simp only [Sem.run_bind, run_underlying Try.underlying37, Result.andThen_ok]
  simp only [Std.Legacy.Range.forIn_eq_forIn_range', Std.Legacy.Range.size, Nat.sub_zero, Nat.add_sub_cancel, Nat.div_one, List.range'_succ, List.range'_zero, List.forIn_cons, List.forIn_nil]
  unfold allz
  by_cases h0 : g0 = 0
  · by_cases h1 : g1 = 0
    · by_cases h2 : g2 = 0
      · by_cases h3 : g3 = 0
        · by_cases h4 : g4 = 0
          · by_cases h5 : g5 = 0 <;> go_simp
          · go_simp
        · go_simp
      · go_simp
    · go_simp
  · go_simp
attribute [local go_sem] eq37

set_option maxHeartbeats 2000000 in
theorem grouped (c u g0 g1 g2 g3 g4 g5 : Int) (w : World) :
    Calls Try.prog 30 #[metreV c u g0 g1 g2 g3 g4 g5] w fun e w' => e = .returned (.bool (groupedF c g0 g1 g2 g3 g4 g5)) ∧ Below w.heap.size w w' := by
  cases hz : allz g0 g1 g2 g3 g4 g5
  · have hr := Lib.hid (show groupedF c g0 g1 g2 g3 g4 g5 = groupsF c ([g0, g1, g2, g3, g4, g5].drop 0) 0 0 0 by
      unfold groupedF; rw [if_neg (of_decide_eq_false hz)]; rfl)
    have ix := grpIx g0 g1 g2 g3 g4 g5
    have ds := Lib.hid (drop_step g0 g1 g2 g3 g4 g5)
    have dl : Hid ([g0, g1, g2, g3, g4, g5].drop 6 = []) := by exact rfl
    generalize hL : [g0, g1, g2, g3, g4, g5] = L at hr ix ds dl
    have hL := Lib.hid hL
    go_enter Try.func30, Try.ntmps30
    go_wp2_with fail
    go_loop [3, 4, 13] (fun s n i => ∃ (k : Nat) (x y : Int), k ≤ 6 ∧ i = .int .i64 k ∧ s = .int .i64 x ∧ n = .int .i64 y ∧ 0 ≤ x ∧ x ≤ 64 * k ∧ 0 ≤ y ∧ y ≤ k ∧ Hid (groupedF c g0 g1 g2 g3 g4 g5 = groupsF c (L.drop k) k x y))
      (fun _ _ i => 6 - (intOf i).toNat)
    case atStart => exact ⟨0, 0, 0, by omega, rfl, rfl, rfl, by omega, by omega, by omega, by omega, hr⟩
    case round =>
      obtain ⟨k, x, y, hk, rfl, rfl, rfl, hx, hx2, hy, hy2, hh⟩ := hrel
      by_cases hlt : k < 6
      · have ix1 := ix k hlt
        clear ix
        have e1 := Lib.hid (ds.out k hlt)
        generalize gAt L k = g at ix1 e1
        go_wp2
        · go_ret
          exact ⟨ret_bool (by rw [hh.out, e1.out, groupsF, if_pos (by simp only [bne_iff_ne, ne_eq] at *; omega)]), by go_grown⟩
        · go_round
          case rel => exact ⟨k + 1, x + g, y + 1, by omega, by go_num, rfl, rfl, by omega, by omega, by omega, by omega, by
            show _ = _
            rw [hh.out, e1.out, groupsF, if_neg (by simp only [bne_eq_false_iff_eq] at *; omega), if_pos (by omega)]; rfl⟩
          case measure => simp [intOf]; omega
        · go_round
          case rel => exact ⟨k + 1, x, y, by omega, by go_num, rfl, rfl, by omega, by omega, by omega, by omega, by
            show _ = _
            rw [hh.out, e1.out, groupsF, if_neg (by omega), if_neg (by omega)]; rfl⟩
          case measure => simp [intOf]; omega
        · go_ret
          exact ⟨ret_bool (by rw [hh.out, e1.out, groupsF, if_pos (by omega)]), by go_grown⟩
        · go_ret
          exact ⟨ret_bool (by rw [hh.out, e1.out, groupsF, if_pos (by omega)]), by go_grown⟩
      · obtain rfl : k = 6 := by omega
        have e1 := Lib.hid (dl.out)
        go_wp2
        · go_ret
          exact ⟨ret_bool (by rw [hh.out, e1.out, groupsF]; simp; omega), by go_grown⟩
        · go_ret
          exact ⟨ret_bool (by rw [hh.out, e1.out, groupsF]; simp; omega), by go_grown⟩
  · have hr := Lib.hid (show groupedF c g0 g1 g2 g3 g4 g5 = true by unfold groupedF; rw [if_pos (of_decide_eq_true hz)])
    go_enter Try.func30, Try.ntmps30
    go_wp2_with fail
    go_ret
    exact ⟨ret_bool hr.out.symm, by go_grown⟩
end Go.Proofs.Ytaklcnhenapckaa
