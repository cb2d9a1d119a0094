/- The closed run of the example. -/
import Derived.Test.YtfhijafkpenogaaGreatDoorV
import Derived.Test.YtfhijafkpenogaaGreatDoorPE20
import Derived.KernelRfl
namespace Go.Proofs.YtfhijafkpenogaaGreatDoor
open Go.PE Go.RowKit
theorem runK : gF (lookT tabL) 200 false (.fn 4) [] [] = some (.sc (.bool true), [], 0) := by kernel_rfl
theorem knownC (w : World) : Calls Tryz.prog 4 #[] w fun e w' => e = .returned (.bool true) ∧ Below w.heap.size w w' :=
  run_callsG mixed tabOk 200 [] rfl runK rfl w
#print axioms knownC
end Go.Proofs.YtfhijafkpenogaaGreatDoor
