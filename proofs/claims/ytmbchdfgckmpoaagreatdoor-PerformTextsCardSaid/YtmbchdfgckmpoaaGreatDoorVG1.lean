/- voice.checked at a voice of the example. -/
import Derived.Test.YtmbchdfgckmpoaaGreatDoorVS
namespace Go.Proofs.YtmbchdfgckmpoaaGreatDoor
open Go.PE Go.RowKit
noncomputable def va1 : List PV := [(.agg [(.sl false .full 13 [[(.sc (.int .i64 (0))), (.sc (.int .i64 (4))), (.sc (.int .i64 (1))), (.sc (.int .i64 (2))), (.sc (.int .i64 (0))), (.sl false .full 5 [[(.sc (.int .i64 (0))), (.sc (.int .i64 (0))), (.sc (.int .i64 (4))), (.sc (.bool false)), (.sc (.int .i64 (0)))]]), (.sl true .full 0 []), (.sc (.int .i64 (4))), (.sc (.int .i64 (0))), (.sc (.int .i64 (6))), (.sl true .full 0 []), (.sc (.int .i64 (0))), (.sc (.int .i64 (0)))]]), (.sl true .full 0 [])]), (.sc (.int .i64 (483840)))]
noncomputable def vr1 : PV := .tup [.sl false .no 1 [[.sc (.int .i64 483840)]], .sc (.int .i64 0)]
theorem runG1 : gF pre0 tabT.look 200 true (.fn 125 true) va1 [] = some (vr1, [], 0) := by kernel_rfl
theorem factG1 : FactOk Tryz.prog ⟨125, va1, vr1⟩ := fact_of_run mixed pre0_ok tabOk 200 (by kernel_rfl) (by kernel_rfl) runG1
end Go.Proofs.YtmbchdfgckmpoaaGreatDoor
