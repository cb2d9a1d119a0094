/- check.Valid at a score of the example. -/
import Derived.Test.YtmbchdfgckmpoaaGreatDoorVS
namespace Go.Proofs.YtmbchdfgckmpoaaGreatDoor
open Go.PE Go.RowKit
theorem runV0 : gF pre0 tabT.look 200 false (.fn 23 true) [sc0] [] = some (.sc (.bool true), [], 0) := by kernel_rfl
theorem fact0 : FactOk Tryz.prog ⟨23, [sc0], .sc (.bool true)⟩ := fact_of_run mixed pre0_ok tabOk 200 (by kernel_rfl) (by kernel_rfl) runV0
end Go.Proofs.YtmbchdfgckmpoaaGreatDoor
