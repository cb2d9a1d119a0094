/- check.Valid at a score of the example. -/
import Derived.Test.YtmbchdfgckmpoaaGreatDoorVS
namespace Go.Proofs.YtmbchdfgckmpoaaGreatDoor
open Go.PE Go.RowKit
theorem runV1 : gF pre0 tabT.look 200 false (.fn 23 true) [sc1] [] = some (.sc (.bool true), [], 0) := by kernel_rfl
theorem fact1 : FactOk Tryz.prog ⟨23, [sc1], .sc (.bool true)⟩ := fact_of_run mixed pre0_ok tabOk 200 (by kernel_rfl) (by kernel_rfl) runV1
end Go.Proofs.YtmbchdfgckmpoaaGreatDoor
