/- pitch.floor and pitch.Enharmonics. -/
import Derived.Test.YteoghladllohjaaGreatDoorM17
namespace Go.Proofs.YteoghladllohjaaGreatDoor
open Go.RowKit Go.Shelf Go.Sort

def enhOne (num alt : Int) (step : Nat) : List Pit := if semiF step = (num - alt) % 12 ∧ pitchCheckF step alt ((num - alt) / 12 - 1) = 0 then [⟨step, alt, (num - alt) / 12 - 1⟩] else []
def enhIn (num alt : Int) : Nat → List Pit
  | 0 => []
  | k + 1 => enhIn num alt k ++ enhOne num alt k
def enhOut (num : Int) : Nat → List Pit
  | 0 => []
  | j + 1 => enhOut num j ++ enhIn num (2 - (j : Int)) 7
def enhL (num : Int) : List Pit := enhOut num 5
theorem enhIn_len (num alt : Int) (k : Nat) : (enhIn num alt k).length ≤ k := by
  induction k with
  | zero => simp [enhIn]
  | succ k ih =>
    rw [enhIn, List.length_append]
    have : (enhOne num alt k).length ≤ 1 := by unfold enhOne; split <;> simp
    omega
theorem enhOut_len (num : Int) (j : Nat) : (enhOut num j).length ≤ 7 * j := by
  induction j with
  | zero => simp [enhOut]
  | succ j ih => rw [enhOut, List.length_append]; have := enhIn_len num (2 - (j : Int)) 7; omega

def encP3 (p : Pit) : List Value := [.int .i64 p.st, .int .i64 p.al, .int .i64 p.oc]
def cellsP (l : List Pit) : List Value := l.flatMap encP3
theorem cellsP_snoc (l : List Pit) (p : Pit) : cellsP (l ++ [p]) = cellsP l ++ encP3 p := by simp [cellsP]
theorem info26 : (Tryz.prog.info? 26).map (fun i => (i.zero, i.size, i.bytes)) = some (some (.agg #[.int .i64 0, .int .i64 0, .int .i64 0]), 3, 24) := by kernel_rfl

set_option maxHeartbeats 1000000 in
theorem floorC (a : Int) (w : World) (h1 : -1000 ≤ a) (h2 : a ≤ 1000) : Calls Tryz.prog 55 #[.int .i64 a, .int .i64 12] w fun e w' => e = .returned (.tuple #[.int .i64 (a / 12), .int .i64 (a % 12)]) ∧ Below w.heap.size w w' := by
  have e1 : (0 ≤ a ∧ a.tdiv 12 = a / 12 ∧ a.tmod 12 = a % 12) ∨ (a < 0 ∧ a.tdiv 12 = -((-a) / 12) ∧ a.tmod 12 = -((-a) % 12)) := by
    by_cases h0 : 0 ≤ a
    · exact .inl ⟨h0, Int.tdiv_eq_ediv_of_nonneg h0, Int.tmod_eq_emod_of_nonneg h0⟩
    · refine .inr ⟨by omega, ?_, ?_⟩
      · rw [← Int.tdiv_eq_ediv_of_nonneg (by omega), Int.neg_tdiv, Int.neg_neg]
      · rw [← Int.tmod_eq_emod_of_nonneg (by omega), Int.neg_tmod, Int.neg_neg]
  have q : (a.tmod 12 < 0 ∧ a.tdiv 12 - 1 = a / 12 ∧ a.tmod 12 + 12 = a % 12) ∨ (¬ a.tmod 12 < 0 ∧ a.tdiv 12 = a / 12 ∧ a.tmod 12 = a % 12) := by omega
  have b1 : -100 ≤ a.tdiv 12 ∧ a.tdiv 12 ≤ 100 ∧ -12 < a.tmod 12 ∧ a.tmod 12 < 12 := by omega
  obtain ⟨b1, b2, b3, b4⟩ := b1
  clear e1
  rcases q with ⟨c1, c2, c3⟩ | ⟨c1, c2, c3⟩
  · rw [← c2, ← c3]
    clear c2 c3
    generalize hq : a.tdiv 12 = q at *
    generalize hr : a.tmod 12 = r at *
    go_enter Tryz.func55, Tryz.ntmps55
    go_wp2_with fail
    go_region
    all_goals go_wp2_with fail
    all_goals go_ret2
    all_goals exact ⟨rfl, by go_grown⟩
  · rw [← c2, ← c3]
    clear c2 c3
    generalize hq : a.tdiv 12 = q at *
    generalize hr : a.tmod 12 = r at *
    go_enter Tryz.func55, Tryz.ntmps55
    go_wp2_with fail
    go_region
    all_goals go_wp2_with fail
    all_goals go_ret2
    all_goals exact ⟨rfl, by go_grown⟩
end Go.Proofs.YteoghladllohjaaGreatDoor
