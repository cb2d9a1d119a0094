/- Proved: Rows.PerformTextsCardSaid: the law PerformTexts returns true for every input, the listed tables and errors tied to the program's text. Conditions: none beyond the row's own. -/
import Derived.Test.YtmbchdfgckmpoaaGreatDoorCTa
namespace Go.Proofs.YtmbchdfgckmpoaaGreatDoor.performTextsP
open Go Go.ChangeShapes Go.WideShapes Go.ChangeAt Go.RowKit

theorem goesT : false = Rows.performTextsRow.goesBy Tryz.pinned.checked.prog := by kernel_rfl
theorem wfT : Rows.performTextsRow.wfByText (OpenSpec.ofChange Rows.performTextsSpec) = true := by kernel_rfl
theorem mainT : Tryz.pinned.checked.prog.mainIs = some (true, "c52349de2713d1e2d938cfa9301b249c818872e12e3cefc61e0a2344ca33ffc1".toList) := by kernel_rfl
theorem looksT : true = Tryz.pinned.checked.prog.looks [] := by kernel_rfl
theorem namedT : Tryz.prog.funcNamed "hemiola/hemiolalaw46.PerformTexts" = some 3 := by kernel_rfl
theorem standT : ([22].all fun u => !Tryz.prog.wantsStandIn u) = true := by kernel_rfl
theorem proved : Rows.PerformTextsCardSaid :=
  Claim7.holds_tied_plain_at .later [] [.data, .data, .data, .data, .sentinel, .sentinel, .pinned] true (true, "c52349de2713d1e2d938cfa9301b249c818872e12e3cefc61e0a2344ca33ffc1") true
    over (fun _ h => by cases h) wfT (fun _ h => by cases h) performTexts_row_tie rfl ⟨rfl, rfl⟩ mainT rfl
    (fun f fn hf hfn => by
      obtain rfl : f = 3 := Option.some.inj (namedT.symm.trans hf) |>.symm
      obtain rfl : fn = Tryz.f3 := (Option.some.inj (Tryz.func3.symm.trans hfn)).symm
      exact ⟨looksT, fun j t ht => by
        rw [Tryz.params3] at ht
        have hm : t ∈ [22] := by simpa using Array.mem_of_getElem? ht
        have hall := standT
        exact (show Tryz.prog.wantsStandIn t = false by simpa using List.all_eq_true.1 hall t hm)⟩)
    goesT
#print axioms proved
end Go.Proofs.YtmbchdfgckmpoaaGreatDoor.performTextsP
