/- cmp.Compare at int, and the two closures that the walk reaches. -/
import Derived.Test.YtmbchdfgckmpoaaGreatB1
namespace Go.Proofs.YtmbchdfgckmpoaaGreat
open Go.RowKit Go.Sort

def cmpI (x y : Int) : Int := if x < y then -1 else if y < x then 1 else 0
theorem nanC (x : Int) (w : World) : Calls Tryz.prog 39 #[.int .i64 x] w fun r w' => r = .returned (.bool false) ∧ w' = w := by
  go_enter Tryz.func39, Tryz.ntmps39
  go_wp2_with fail
  go_ret
  exact ⟨rfl, rfl⟩
theorem cmpC (x y : Int) (w : World) : Calls Tryz.prog 22 #[.int .i64 x, .int .i64 y] w fun r w' => r = .returned (.int .i64 (cmpI x y)) ∧ w' = w := by
  have h1 := nanC x
  have h2 := nanC y
  go_enter Tryz.func22, Tryz.ntmps22
  go_wp2_with fail
  refine (h1 _).mono ?_
  rintro e w' ⟨rfl, rfl⟩
  go_wp2_with fail
  refine (h2 _).mono ?_
  rintro e w' ⟨rfl, rfl⟩
  by_cases c1 : x < y
  · go_wp2_with fail
    go_ret
    exact ⟨by simp [cmpI, c1], rfl⟩
  · by_cases c2 : y < x
    · go_wp2_with fail
      go_ret
      exact ⟨by simp [cmpI, c1, c2], rfl⟩
    · go_wp2_with fail
      go_ret
      exact ⟨by simp [cmpI, Int.not_lt.mpr c1, Int.not_lt.mpr c2], rfl⟩

theorem numC (x y : Ply) (w : World) : Calls Tryz.prog 25 #[yV x, yV y] w fun r w' => r = .returned (.int .i64 (cmpI x.n y.n)) ∧ Below w.heap.size w w' := by
  go_enter Tryz.func25, Tryz.ntmps25
  go_wp2_with fail
  refine (cmpC x.n y.n _).mono ?_
  rintro e w' ⟨rfl, rfl⟩
  go_wp2_with fail
  go_ret
  exact ⟨rfl, by go_grown⟩

theorem offC (x y : Ply) (w : World) : Calls Tryz.prog 28 #[yV x, yV y] w fun r w' => r = .returned (.int .i64 (cmpI x.f y.f)) ∧ Below w.heap.size w w' := by
  go_enter Tryz.func28, Tryz.ntmps28
  go_wp2_with fail
  refine (cmpC x.f y.f _).mono ?_
  rintro e w' ⟨rfl, rfl⟩
  go_wp2_with fail
  go_ret
  exact ⟨rfl, by go_grown⟩
end Go.Proofs.YtmbchdfgckmpoaaGreat
