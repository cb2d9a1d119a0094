/-
  DERIVED. GIVEN WITH THE SEED: THE CARDS: each row of YtmbchdfgckmpoaaGreatDoorRows.lean that lists a variable, with what it lists TIED to the program's text (the seventh form; the later family's looks); each row that meets fmt, with fmt's text TOLD by the authors' own Lean function (tested against real Go, not proved from fmt's source: count such statements apart). THE CARD IS WHAT COUNTS. Prove the row's statement (the work); the ties are given (YtmbchdfgckmpoaaGreatDoorTie.lean); close each card by the builder's one call (the guide's Derived/Test/ToyasCard.lean, 'card_holds'). Laid BY PROGRAM, IN A SANDBOX (cutbox-door.mjs). By AI agents, Wed Nov 11 2026. No macro, syntax, notation, axiom, sorry.
-/
import Derived.Test.YtmbchdfgckmpoaaGreatDoorRows
import GoSem.ClaimSeven
namespace Go.Proofs.YtmbchdfgckmpoaaGreatDoor
namespace Rows

/-- THE TIED CARD OF 'hemiolalaw46.PerformTexts'. -/
def performTextsCard : Claim7 := { stood := { row := performTextsRow, standIns := [], harness := (true, "c52349de2713d1e2d938cfa9301b249c818872e12e3cefc61e0a2344ca33ffc1"), looks := true }, kinds := [], alts := [], laidByText := true, laidKinds := [.data, .data, .data, .data, .sentinel, .sentinel, .pinned], laidTests := true, laidLooks := .later }
def PerformTextsCardSaid : Prop := Claim7.holds Tryz.pinned (.plain (OpenSpec.ofChange performTextsSpec)) performTextsCard

/-- THE TIED CARD OF 'hemiolalaw46.PerformDecodes'. -/
def performDecodesCard : Claim7 := { stood := { row := performDecodesRow, standIns := [], harness := (true, "c52349de2713d1e2d938cfa9301b249c818872e12e3cefc61e0a2344ca33ffc1"), looks := true }, kinds := [], alts := [], laidByText := true, laidKinds := [.data, .data, .data, .data, .sentinel, .sentinel, .pinned], laidTests := true, laidLooks := .later }
def PerformDecodesCardSaid : Prop := Claim7.holds Tryz.pinned (.plain (OpenSpec.ofChange performDecodesSpec)) performDecodesCard

/-- THE SECOND FORM's CARD OF 'hemiolalaw46.PerformTexts'. -/
def performTextsUptoCard : Claim7 := { stood := { row := performTextsUptoRow, standIns := [], harness := (true, "c52349de2713d1e2d938cfa9301b249c818872e12e3cefc61e0a2344ca33ffc1"), looks := true }, kinds := [], alts := [], laidByText := true, laidKinds := [.data, .data, .data, .data, .sentinel, .sentinel, .pinned], laidTests := true, laidLooks := .later }
def PerformTextsUptoCardSaid : Prop := Claim7.holds Tryz.pinned (.plain (OpenSpec.upto performTextsSpec)) performTextsUptoCard

/-- THE SECOND FORM's CARD OF 'hemiolalaw46.PerformDecodes'. -/
def performDecodesUptoCard : Claim7 := { stood := { row := performDecodesUptoRow, standIns := [], harness := (true, "c52349de2713d1e2d938cfa9301b249c818872e12e3cefc61e0a2344ca33ffc1"), looks := true }, kinds := [], alts := [], laidByText := true, laidKinds := [.data, .data, .data, .data, .sentinel, .sentinel, .pinned], laidTests := true, laidLooks := .later }
def PerformDecodesUptoCardSaid : Prop := Claim7.holds Tryz.pinned (.plain (OpenSpec.upto performDecodesSpec)) performDecodesUptoCard
end Rows
end Go.Proofs.YtmbchdfgckmpoaaGreatDoor
