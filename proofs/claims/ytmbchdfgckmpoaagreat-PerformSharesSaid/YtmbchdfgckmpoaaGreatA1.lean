/- The law PerformShares. -/
import Derived.Test.YtmbchdfgckmpoaaGreatVK
import Derived.WalkKit
import Derived.WalkSpells
import Derived.WalkLawsBesides
import Derived.Handy
namespace Go.Proofs.YtmbchdfgckmpoaaGreat
open Go.RowKit

def shF (s t b : Bool) : Int := if s && t then 75 else if s then 50 else if t || b then 100 else 95
theorem shareC (a : Int) (b : Bool) (w : World) : Calls Tryz.prog 7 #[.int .i64 a, .bool b] w fun e w' => e = .returned (.int .i64 (shF (bits .and .i64 a 1 != 0) (bits .and .i64 a 2 != 0) b)) ∧ w' = w := by
  cases h1 : (bits .and .i64 a 1 != 0) <;> cases h2 : (bits .and .i64 a 2 != 0) <;> cases b
  all_goals
    go_enter Tryz.func7, Tryz.ntmps7
    go_wp2_with fail
    go_ret
    exact ⟨rfl, rfl⟩
theorem shareM (a : Int) (b : Bool) (w : World) : Calls Tryz.prog 8 #[.int .i64 a, .bool b] w fun e w' => e = .returned (.int .i64 (shF (bits .and .i64 a 1 != 0) (bits .and .i64 a 2 != 0) b)) ∧ w' = w := by
  cases h1 : (bits .and .i64 a 1 != 0) <;> cases h2 : (bits .and .i64 a 2 != 0) <;> cases b
  all_goals
    go_enter Tryz.func8, Tryz.ntmps8
    go_wp2_with fail
    go_ret
    exact ⟨rfl, rfl⟩
theorem sharesC (a : Int) (b : Bool) (w : World) : Calls Tryz.prog 3 #[.int .i64 a, .bool b] w fun e w' => e = .returned (.bool true) ∧ Below w.heap.size w w' := by
  have c1 := fun w => shareC a b w
  have c2 := fun w => shareM a b w
  generalize shF (bits .and .i64 a 1 != 0) (bits .and .i64 a 2 != 0) b = z at *
  go_enter Tryz.func3, Tryz.ntmps3
  go_wp2_with fail
  refine (knownC _).mono ?_
  rintro e w1 ⟨rfl, hb1⟩
  go_wp2_with fail
  refine (c1 _).mono ?_
  rintro e w2 ⟨rfl, rfl⟩
  go_wp2_with fail
  refine (c2 _).mono ?_
  rintro e w3 ⟨rfl, rfl⟩
  go_wp2_with fail
  go_ret
  exact ⟨rfl, hb1⟩
end Go.Proofs.YtmbchdfgckmpoaaGreat
