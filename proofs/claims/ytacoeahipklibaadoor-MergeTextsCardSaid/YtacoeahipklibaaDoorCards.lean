/-
  DERIVED. GIVEN WITH THE SEED: THE CARDS: each row of YtacoeahipklibaaDoorRows.lean that lists a variable, with what it lists TIED to the program's text (the seventh form; the later family's looks); each row that meets fmt, with fmt's text TOLD by the authors' own Lean function (tested against real Go, not proved from fmt's source: count such statements apart). THE CARD IS WHAT COUNTS. Prove the row's statement (the work); the ties are given (YtacoeahipklibaaDoorTie.lean); close each card by the builder's one call (the guide's Derived/Test/ToyasCard.lean, 'card_holds'). Laid BY PROGRAM, IN A SANDBOX (cutbox-door.mjs). By AI agents, Wed Nov 11 2026. No macro, syntax, notation, axiom, sorry.
-/
import Derived.Test.YtacoeahipklibaaDoorRows
import GoSem.ClaimSeven
namespace Go.Proofs.YtacoeahipklibaaDoor
namespace Rows

/-- THE TIED CARD OF 'hemiolalaw54.MergeSequences'. -/
def mergeSequencesCard : Claim7 := { stood := { row := mergeSequencesRow, standIns := [], harness := (true, "f3fcf8204128dffb6bd389120d7645f7dbd7abab287140dabaa8c81f2cd47462"), looks := false }, kinds := [], alts := [], laidByText := true, laidKinds := [.data, .data, .data], laidTests := true, laidLooks := .later }
def MergeSequencesCardSaid : Prop := Claim7.holds Tryd.pinned (.plain (OpenSpec.ofChange mergeSequencesSpec)) mergeSequencesCard

/-- THE TIED CARD OF 'hemiolalaw54.MergeKeeps'. -/
def mergeKeepsCard : Claim7 := { stood := { row := mergeKeepsRow, standIns := [], harness := (true, "f3fcf8204128dffb6bd389120d7645f7dbd7abab287140dabaa8c81f2cd47462"), looks := false }, kinds := [], alts := [], laidByText := true, laidKinds := [.data, .data, .data], laidTests := true, laidLooks := .later }
def MergeKeepsCardSaid : Prop := Claim7.holds Tryd.pinned (.plain (OpenSpec.ofChange mergeKeepsSpec)) mergeKeepsCard

/-- THE TIED CARD OF 'hemiolalaw54.MergeTexts'. -/
def mergeTextsCard : Claim7 := { stood := { row := mergeTextsRow, standIns := [], harness := (true, "f3fcf8204128dffb6bd389120d7645f7dbd7abab287140dabaa8c81f2cd47462"), looks := false }, kinds := [], alts := [], laidByText := true, laidKinds := [.data, .data, .data], laidTests := true, laidLooks := .later }
def MergeTextsCardSaid : Prop := Claim7.holds Tryd.pinned (.plain (OpenSpec.ofChange mergeTextsSpec)) mergeTextsCard

/-- THE SECOND FORM's CARD OF 'hemiolalaw54.MergeSequences'. -/
def mergeSequencesUptoCard : Claim7 := { stood := { row := mergeSequencesUptoRow, standIns := [], harness := (true, "f3fcf8204128dffb6bd389120d7645f7dbd7abab287140dabaa8c81f2cd47462"), looks := false }, kinds := [], alts := [], laidByText := true, laidKinds := [.data, .data, .data], laidTests := true, laidLooks := .later }
def MergeSequencesUptoCardSaid : Prop := Claim7.holds Tryd.pinned (.plain (OpenSpec.upto mergeSequencesSpec)) mergeSequencesUptoCard

/-- THE SECOND FORM's CARD OF 'hemiolalaw54.MergeKeeps'. -/
def mergeKeepsUptoCard : Claim7 := { stood := { row := mergeKeepsUptoRow, standIns := [], harness := (true, "f3fcf8204128dffb6bd389120d7645f7dbd7abab287140dabaa8c81f2cd47462"), looks := false }, kinds := [], alts := [], laidByText := true, laidKinds := [.data, .data, .data], laidTests := true, laidLooks := .later }
def MergeKeepsUptoCardSaid : Prop := Claim7.holds Tryd.pinned (.plain (OpenSpec.upto mergeKeepsSpec)) mergeKeepsUptoCard

/-- THE SECOND FORM's CARD OF 'hemiolalaw54.MergeTexts'. -/
def mergeTextsUptoCard : Claim7 := { stood := { row := mergeTextsUptoRow, standIns := [], harness := (true, "f3fcf8204128dffb6bd389120d7645f7dbd7abab287140dabaa8c81f2cd47462"), looks := false }, kinds := [], alts := [], laidByText := true, laidKinds := [.data, .data, .data], laidTests := true, laidLooks := .later }
def MergeTextsUptoCardSaid : Prop := Claim7.holds Tryd.pinned (.plain (OpenSpec.upto mergeTextsSpec)) mergeTextsUptoCard
end Rows
end Go.Proofs.YtacoeahipklibaaDoor
