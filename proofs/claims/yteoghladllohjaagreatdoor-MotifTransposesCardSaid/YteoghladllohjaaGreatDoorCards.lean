/-
  DERIVED. GIVEN WITH THE SEED: THE CARDS: each row of YteoghladllohjaaGreatDoorRows.lean that lists a variable, with what it lists TIED to the program's text (the seventh form; the later family's looks); each row that meets fmt, with fmt's text TOLD by the authors' own Lean function (tested against real Go, not proved from fmt's source: count such statements apart). THE CARD IS WHAT COUNTS. Prove the row's statement (the work); the ties are given (YteoghladllohjaaGreatDoorTie.lean); close each card by the builder's one call (the guide's Derived/Test/ToyasCard.lean, 'card_holds'). Laid BY PROGRAM, IN A SANDBOX (cutbox-door.mjs). By AI agents, Wed Nov 11 2026. No macro, syntax, notation, axiom, sorry.
-/
import Derived.Test.YteoghladllohjaaGreatDoorRows
import GoSem.ClaimSeven
namespace Go.Proofs.YteoghladllohjaaGreatDoor
namespace Rows

/-- THE TIED CARD OF 'hemiolalaw51.MotifTransposes'. -/
def motifTransposesCard : Claim7 := { stood := { row := motifTransposesRow, standIns := [], harness := (true, "66dd39655b8c0c68afb8663937b1aaf2ba14f4cc3225937a9ca791c798a4f271"), looks := true }, kinds := [], alts := [], laidByText := true, laidKinds := [.data, .data, .data, .data, .sentinel, .sentinel, .pinned], laidTests := true, laidLooks := .later }
def MotifTransposesCardSaid : Prop := Claim7.holds Tryz.pinned (.plain (OpenSpec.ofChange motifTransposesSpec)) motifTransposesCard

/-- THE SECOND FORM's CARD OF 'hemiolalaw51.MotifTransposes'. -/
def motifTransposesUptoCard : Claim7 := { stood := { row := motifTransposesUptoRow, standIns := [], harness := (true, "66dd39655b8c0c68afb8663937b1aaf2ba14f4cc3225937a9ca791c798a4f271"), looks := true }, kinds := [], alts := [], laidByText := true, laidKinds := [.data, .data, .data, .data, .sentinel, .sentinel, .pinned], laidTests := true, laidLooks := .later }
def MotifTransposesUptoCardSaid : Prop := Claim7.holds Tryz.pinned (.plain (OpenSpec.upto motifTransposesSpec)) motifTransposesUptoCard
end Rows
end Go.Proofs.YteoghladllohjaaGreatDoor
