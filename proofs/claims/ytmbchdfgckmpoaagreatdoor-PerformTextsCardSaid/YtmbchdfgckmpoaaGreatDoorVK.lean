/- The closed run of the example. -/
import Derived.Test.YtmbchdfgckmpoaaGreatDoorVF0
import Derived.Test.YtmbchdfgckmpoaaGreatDoorVF1
import Derived.Test.YtmbchdfgckmpoaaGreatDoorVG0
import Derived.Test.YtmbchdfgckmpoaaGreatDoorVG1
namespace Go.Proofs.YtmbchdfgckmpoaaGreatDoor
open Go.PE Go.RowKit
noncomputable def facts : List Fact := [⟨23, [sc0], .sc (.bool true)⟩, ⟨23, [sc1], .sc (.bool true)⟩, ⟨125, va0, vr0⟩, ⟨125, va1, vr1⟩]
noncomputable def pre1 : FuncId → List PV → Option PV := preA 346 (preL facts)
theorem pre1_ok : PreOk Tryz.prog pre1 := preA_ok (preL_ok (fun x h => by
  simp only [facts, List.mem_cons, List.not_mem_nil, or_false] at h
  rcases h with rfl | rfl | rfl | rfl
  · exact fact0
  · exact fact1
  · exact factG0
  · exact factG1)) addC
theorem runK : gF pre1 tabT.look 200 false (.fn 5 true) [] [] = some (.sc (.bool true), [], 0) := by kernel_rfl
theorem knownC (w : World) : Calls Tryz.prog 5 #[] w fun e w' => e = .returned (.bool true) ∧ Below w.heap.size w w' :=
  run_callsG mixed pre1_ok tabOk 200 [] rfl runK rfl w
end Go.Proofs.YtmbchdfgckmpoaaGreatDoor
