/- voice.checked at a voice of the example. -/
import Derived.Test.YtmbchdfgckmpoaaGreatDoorVS
namespace Go.Proofs.YtmbchdfgckmpoaaGreatDoor
open Go.PE Go.RowKit
noncomputable def va0 : List PV := [(.agg [(.sl false .full 13 [[(.sc (.int .i64 (0))), (.sc (.int .i64 (4))), (.sc (.int .i64 (1))), (.sc (.int .i64 (2))), (.sc (.int .i64 (0))), (.sl false .full 5 [[(.sc (.int .i64 (0))), (.sc (.int .i64 (0))), (.sc (.int .i64 (4))), (.sc (.bool false)), (.sc (.int .i64 (0)))]]), (.sl true .full 0 []), (.sc (.int .i64 (0))), (.sc (.int .i64 (0))), (.sc (.int .i64 (0))), (.sl true .full 0 []), (.sc (.int .i64 (0))), (.sc (.int .i64 (0)))]]), (.sl true .full 0 [])]), (.sc (.int .i64 (483840)))]
noncomputable def vr0 : PV := .tup [.sl false .no 1 [[.sc (.int .i64 483840)]], .sc (.int .i64 0)]
theorem runG0 : gF pre0 tabT.look 200 true (.fn 125 true) va0 [] = some (vr0, [], 0) := by kernel_rfl
theorem factG0 : FactOk Tryz.prog ⟨125, va0, vr0⟩ := fact_of_run mixed pre0_ok tabOk 200 (by kernel_rfl) (by kernel_rfl) runG0
end Go.Proofs.YtmbchdfgckmpoaaGreatDoor
