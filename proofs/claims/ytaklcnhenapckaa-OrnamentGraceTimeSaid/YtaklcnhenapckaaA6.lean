/- Contracts: known. -/
import Derived.Test.YtaklcnhenapckaaA3
import Derived.Test.YtaklcnhenapckaaA5
namespace Go.Proofs.Ytaklcnhenapckaa
open Go.RowKit

set_option maxHeartbeats 1000000 in
theorem expTurn (w : World) :
    Calls Try.prog 13 #[.int .i64 4, .int .i64 483840, .int .i64 1, .int .i64 (-2)] w fun e w' => e = .returned (.tuple #[.slice (some ⟨w.heap.size, 0, none⟩) 4 4, .int .i64 0]) ∧
      w.alloc (.cells #[.int .i64 0, .int .i64 120960, .int .i64 1, .int .i64 120960, .int .i64 241920, .int .i64 0, .int .i64 241920, .int .i64 362880, .int .i64 (-2), .int .i64 362880, .int .i64 483840, .int .i64 0] 36) = w' := by
  have hn := fun (W : World) (a : Option Addr) (n c : Nat) => Lib.run_eql_slice_nil (P := Try.prog) W 30 36 a n c 0 0 Try.underlying30
  go_enter Try.func13, Try.ntmps13
  go_wp2_with fail
  go_ret2
  exact ⟨rfl, rfl⟩

theorem neigh0 : neighV 2 0 4 0 = .tuple #[.int .i64 1, .int .i64 (-2), .int .i64 0] := by
  unfold neighV; rw [if_pos (by decide), if_pos (by decide)]; rfl
theorem bits4 : bitsF 4 = 0 := by decide
theorem met4 : metreF 4 4 0 0 0 0 0 0 = 0 := by
  unfold metreF; rw [if_neg (by omega), if_neg (by rw [bits4]; omega), if_pos (by unfold groupedF; simp)]
theorem swing1 : swingV 0 4 0 241920 60 = .tuple #[.int .i64 290304, .int .i64 0] := by
  unfold swingV; rw [if_pos rfl, if_neg (by omega), if_neg (by omega)]; rfl
theorem swing2 : swingV 0 4 0 362880 60 = .tuple #[.int .i64 387072, .int .i64 0] := by
  unfold swingV; rw [if_pos rfl, if_neg (by omega), if_neg (by omega)]; rfl

set_option maxHeartbeats 1000000 in
theorem known (w : World) :
    Calls Try.prog 12 #[] w fun e w' => e = .returned (.bool true) ∧ Below w.heap.size w w' := by
  go_enter Try.func12, Try.ntmps12
  go_wp2_with fail
  refine (neighO _ _ _ _ _).mono ?_; rintro e w1 ⟨rfl, hb1⟩
  rw [neigh0]
  go_wp2_with fail
  refine (expTurn _).mono ?_; rintro e w2 ⟨rfl, rfl⟩
  go_wp2_with fail
  refine (swingO _ _ _ _ _ _ _ _ _ _ _ _).mono ?_; rintro e w3 ⟨rfl, hb3⟩
  rw [met4, swing1]
  obtain ⟨hc3, hf3⟩ := bcell hb3
  have hz3 : w1.heap.size < w3.heap.size := by have := hb3.size; simp at this; omega
  go_wp2_with fail
  refine (swingO _ _ _ _ _ _ _ _ _ _ _ _).mono ?_; rintro e w4 ⟨rfl, hb4⟩
  rw [met4, swing2]
  obtain ⟨hc4, hf4⟩ := bcell hb4
  have hz4 : w1.heap.size < w4.heap.size := by have := hb4.size; omega
  go_wp2_with fail
  go_ret
  exact ⟨rfl, bstep (bstep (hb1.alloc hb1.size _) hb3) hb4⟩

set_option maxHeartbeats 1000000 in
theorem lawNeighbours (s a o f : Int) (w : World) :
    Calls Try.prog 3 #[pitchV s a o, .int .i64 f] w fun e w' => e = .returned (.bool true) ∧ Below w.heap.size w w' := by
  have hv : ∃ x y z : Int, neighV s a o f = .tuple #[.int .i64 x, .int .i64 y, .int .i64 z] := by
    unfold neighV; (repeat' split) <;> exact ⟨_, _, _, rfl⟩
  obtain ⟨x, y, z, hv⟩ := hv
  have hv := Lib.hid hv
  go_enter Try.func3, Try.ntmps3
  go_wp2_with fail
  refine (neighO _ _ _ _ _).mono ?_; rintro e w1 ⟨rfl, hb1⟩
  rw [hv.out]
  obtain ⟨hc1, hf1⟩ := bcell hb1
  have hz1 : w.heap.size < w1.heap.size := by have := hb1.size; simp at this; omega
  have B1 := bstep ((Below.refl _ _).alloc (Nat.le_refl _) _) hb1
  go_wp2_with fail
  refine (neighL _ _ _ _ _).mono ?_; rintro e w2 ⟨rfl, hb2⟩
  rw [hv.out]
  go_wp2_with fail
  refine (known _).mono ?_; rintro e w3 ⟨rfl, hb3⟩
  go_wp2_with fail
  go_ret
  exact ⟨rfl, bstep (bstep B1 hb2) hb3⟩

set_option maxHeartbeats 1000000 in
theorem lawSwings (c u g0 g1 g2 g3 g4 g5 off tick p : Int) (w : World) :
    Calls Try.prog 6 #[metreV c u g0 g1 g2 g3 g4 g5, .agg #[.int .i64 off, .int .i64 tick], .int .i64 p] w fun e w' => e = .returned (.bool true) ∧ Below w.heap.size w w' := by
  have hv : ∃ x y : Int, swingV (metreF c u g0 g1 g2 g3 g4 g5) u off tick p = .tuple #[.int .i64 x, .int .i64 y] := by
    unfold swingV; (repeat' split) <;> exact ⟨_, _, rfl⟩
  obtain ⟨x, y, hv⟩ := hv
  have hv := Lib.hid hv
  go_enter Try.func6, Try.ntmps6
  go_wp2_with fail
  refine (swingO _ _ _ _ _ _ _ _ _ _ _ _).mono ?_; rintro e w1 ⟨rfl, hb1⟩
  rw [hv.out]
  obtain ⟨hc1, hf1⟩ := bcell hb1
  have hz1 : w.heap.size + 1 < w1.heap.size := by have := hb1.size; simp at this; omega
  have hz1' : w.heap.size < w1.heap.size := by omega
  have B1 := bstep (((Below.refl _ _).alloc (Nat.le_refl _) _).alloc (by simp) _) hb1
  go_wp2_with fail
  refine (swingL _ _ _ _ _ _ _ _ _ _ _ _).mono ?_; rintro e w2 ⟨rfl, hb2⟩
  rw [hv.out]
  go_wp2_with fail
  refine (known _).mono ?_; rintro e w3 ⟨rfl, hb3⟩
  go_wp2_with fail
  go_ret
  exact ⟨rfl, bstep (bstep B1 hb2) hb3⟩
end Go.Proofs.Ytaklcnhenapckaa
