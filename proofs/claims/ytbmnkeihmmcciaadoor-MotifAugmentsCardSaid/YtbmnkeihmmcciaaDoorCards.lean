/-
  DERIVED. GIVEN WITH THE SEED: THE CARDS: each row of YtbmnkeihmmcciaaDoorRows.lean that lists a variable, with what it lists TIED to the program's text (the seventh form; the later family's looks); each row that meets fmt, with fmt's text TOLD by the authors' own Lean function (tested against real Go, not proved from fmt's source: count such statements apart). THE CARD IS WHAT COUNTS. Prove the row's statement (the work); the ties are given (YtbmnkeihmmcciaaDoorTie.lean); close each card by the builder's one call (the guide's Derived/Test/ToyasCard.lean, 'card_holds'). Laid BY PROGRAM, IN A SANDBOX (cutbox-door.mjs). By AI agents, Wed Nov 11 2026. No macro, syntax, notation, axiom, sorry.
-/
import Derived.Test.YtbmnkeihmmcciaaDoorRows
import GoSem.ClaimSeven
namespace Go.Proofs.YtbmnkeihmmcciaaDoor
namespace Rows

/-- THE TIED CARD OF 'hemiolalaw51.MotifTexts'. -/
def motifTextsCard : Claim7 := { stood := { row := motifTextsRow, standIns := [], harness := (true, "31a251e7d9de0f5d58934494260d2191abd13db83bd10c644baee41f7dfe2d3f"), looks := true }, kinds := [], alts := [], laidByText := true, laidKinds := [.data, .data, .data, .data, .sentinel, .sentinel, .pinned], laidTests := true, laidLooks := .later }
def MotifTextsCardSaid : Prop := Claim7.holds Tryd.pinned (.plain (OpenSpec.ofChange motifTextsSpec)) motifTextsCard

/-- THE TIED CARD OF 'hemiolalaw51.MotifParses'. -/
def motifParsesCard : Claim7 := { stood := { row := motifParsesRow, standIns := [], harness := (true, "31a251e7d9de0f5d58934494260d2191abd13db83bd10c644baee41f7dfe2d3f"), looks := true }, kinds := [], alts := [], laidByText := true, laidKinds := [.data, .data, .data, .data, .sentinel, .sentinel, .pinned], laidTests := true, laidLooks := .later }
def MotifParsesCardSaid : Prop := Claim7.holds Tryd.pinned (.plain (OpenSpec.ofChange motifParsesSpec)) motifParsesCard

/-- THE TIED CARD OF 'hemiolalaw51.MotifAugments'. -/
def motifAugmentsCard : Claim7 := { stood := { row := motifAugmentsRow, standIns := [], harness := (true, "31a251e7d9de0f5d58934494260d2191abd13db83bd10c644baee41f7dfe2d3f"), looks := true }, kinds := [], alts := [], laidByText := true, laidKinds := [.data, .data, .data, .data, .sentinel, .sentinel, .pinned], laidTests := true, laidLooks := .later }
def MotifAugmentsCardSaid : Prop := Claim7.holds Tryd.pinned (.plain (OpenSpec.ofChange motifAugmentsSpec)) motifAugmentsCard

/-- THE SECOND FORM's CARD OF 'hemiolalaw51.MotifTexts'. -/
def motifTextsUptoCard : Claim7 := { stood := { row := motifTextsUptoRow, standIns := [], harness := (true, "31a251e7d9de0f5d58934494260d2191abd13db83bd10c644baee41f7dfe2d3f"), looks := true }, kinds := [], alts := [], laidByText := true, laidKinds := [.data, .data, .data, .data, .sentinel, .sentinel, .pinned], laidTests := true, laidLooks := .later }
def MotifTextsUptoCardSaid : Prop := Claim7.holds Tryd.pinned (.plain (OpenSpec.upto motifTextsSpec)) motifTextsUptoCard

/-- THE SECOND FORM's CARD OF 'hemiolalaw51.MotifParses'. -/
def motifParsesUptoCard : Claim7 := { stood := { row := motifParsesUptoRow, standIns := [], harness := (true, "31a251e7d9de0f5d58934494260d2191abd13db83bd10c644baee41f7dfe2d3f"), looks := true }, kinds := [], alts := [], laidByText := true, laidKinds := [.data, .data, .data, .data, .sentinel, .sentinel, .pinned], laidTests := true, laidLooks := .later }
def MotifParsesUptoCardSaid : Prop := Claim7.holds Tryd.pinned (.plain (OpenSpec.upto motifParsesSpec)) motifParsesUptoCard

/-- THE SECOND FORM's CARD OF 'hemiolalaw51.MotifAugments'. -/
def motifAugmentsUptoCard : Claim7 := { stood := { row := motifAugmentsUptoRow, standIns := [], harness := (true, "31a251e7d9de0f5d58934494260d2191abd13db83bd10c644baee41f7dfe2d3f"), looks := true }, kinds := [], alts := [], laidByText := true, laidKinds := [.data, .data, .data, .data, .sentinel, .sentinel, .pinned], laidTests := true, laidLooks := .later }
def MotifAugmentsUptoCardSaid : Prop := Claim7.holds Tryd.pinned (.plain (OpenSpec.upto motifAugmentsSpec)) motifAugmentsUptoCard
end Rows
end Go.Proofs.YtbmnkeihmmcciaaDoor
