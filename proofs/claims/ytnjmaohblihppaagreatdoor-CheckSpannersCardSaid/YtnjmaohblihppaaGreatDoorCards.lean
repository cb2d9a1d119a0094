/-
  DERIVED. GIVEN WITH THE SEED: THE CARDS: each row of YtnjmaohblihppaaGreatDoorRows.lean that lists a variable, with what it lists TIED to the program's text (the seventh form; the later family's looks); each row that meets fmt, with fmt's text TOLD by the authors' own Lean function (tested against real Go, not proved from fmt's source: count such statements apart). THE CARD IS WHAT COUNTS. Prove the row's statement (the work); the ties are given (YtnjmaohblihppaaGreatDoorTie.lean); close each card by the builder's one call (the guide's Derived/Test/ToyasCard.lean, 'card_holds'). Laid BY PROGRAM, IN A SANDBOX (cutbox-door.mjs). By AI agents, Wed Nov 11 2026. No macro, syntax, notation, axiom, sorry.
-/
import Derived.Test.YtnjmaohblihppaaGreatDoorRows
import GoSem.ClaimSeven
namespace Go.Proofs.YtnjmaohblihppaaGreatDoor
namespace Rows

/-- THE TIED CARD OF 'hemiolalaw16.CheckOrder'. -/
def checkOrderCard : Claim7 := { stood := { row := checkOrderRow, standIns := [], harness := (true, "2637db0cd7ba8a1aa4c994a9601f08b195f5c6464e8937b8ea253dca9ada99ca"), looks := false }, kinds := [], alts := [], laidByText := true, laidKinds := [.data, .data, .data], laidTests := true, laidLooks := .later }
def CheckOrderCardSaid : Prop := Claim7.holds Tryz.pinned (.plain (OpenSpec.ofChange checkOrderSpec)) checkOrderCard

/-- THE TIED CARD OF 'hemiolalaw16.CheckIds'. -/
def checkIdsCard : Claim7 := { stood := { row := checkIdsRow, standIns := [], harness := (true, "2637db0cd7ba8a1aa4c994a9601f08b195f5c6464e8937b8ea253dca9ada99ca"), looks := false }, kinds := [], alts := [], laidByText := true, laidKinds := [.data, .data, .data], laidTests := true, laidLooks := .later }
def CheckIdsCardSaid : Prop := Claim7.holds Tryz.pinned (.plain (OpenSpec.ofChange checkIdsSpec)) checkIdsCard

/-- THE TIED CARD OF 'hemiolalaw16.CheckTies'. -/
def checkTiesCard : Claim7 := { stood := { row := checkTiesRow, standIns := [], harness := (true, "2637db0cd7ba8a1aa4c994a9601f08b195f5c6464e8937b8ea253dca9ada99ca"), looks := false }, kinds := [], alts := [], laidByText := true, laidKinds := [.data, .data, .data], laidTests := true, laidLooks := .later }
def CheckTiesCardSaid : Prop := Claim7.holds Tryz.pinned (.plain (OpenSpec.ofChange checkTiesSpec)) checkTiesCard

/-- THE TIED CARD OF 'hemiolalaw16.CheckSpanners'. -/
def checkSpannersCard : Claim7 := { stood := { row := checkSpannersRow, standIns := [], harness := (true, "2637db0cd7ba8a1aa4c994a9601f08b195f5c6464e8937b8ea253dca9ada99ca"), looks := false }, kinds := [], alts := [], laidByText := true, laidKinds := [.data, .data, .data], laidTests := true, laidLooks := .later }
def CheckSpannersCardSaid : Prop := Claim7.holds Tryz.pinned (.plain (OpenSpec.ofChange checkSpannersSpec)) checkSpannersCard

/-- THE TIED CARD OF 'hemiolalaw16.CheckVoices'. -/
def checkVoicesCard : Claim7 := { stood := { row := checkVoicesRow, standIns := [], harness := (true, "2637db0cd7ba8a1aa4c994a9601f08b195f5c6464e8937b8ea253dca9ada99ca"), looks := false }, kinds := [], alts := [], laidByText := true, laidKinds := [.data, .data, .data], laidTests := true, laidLooks := .later }
def CheckVoicesCardSaid : Prop := Claim7.holds Tryz.pinned (.plain (OpenSpec.ofChange checkVoicesSpec)) checkVoicesCard

/-- THE TIED CARD OF 'hemiolalaw16.CheckRules'. -/
def checkRulesCard : Claim7 := { stood := { row := checkRulesRow, standIns := [], harness := (true, "2637db0cd7ba8a1aa4c994a9601f08b195f5c6464e8937b8ea253dca9ada99ca"), looks := false }, kinds := [], alts := [], laidByText := true, laidKinds := [.data, .data, .data], laidTests := true, laidLooks := .later }
def CheckRulesCardSaid : Prop := Claim7.holds Tryz.pinned (.plain (OpenSpec.ofChange checkRulesSpec)) checkRulesCard

/-- THE TIED CARD OF 'hemiolalaw16.CheckRenumbers'. -/
def checkRenumbersCard : Claim7 := { stood := { row := checkRenumbersRow, standIns := [], harness := (true, "2637db0cd7ba8a1aa4c994a9601f08b195f5c6464e8937b8ea253dca9ada99ca"), looks := false }, kinds := [], alts := [], laidByText := true, laidKinds := [.data, .data, .data], laidTests := true, laidLooks := .later }
def CheckRenumbersCardSaid : Prop := Claim7.holds Tryz.pinned (.plain (OpenSpec.ofChange checkRenumbersSpec)) checkRenumbersCard

/-- THE SECOND FORM's CARD OF 'hemiolalaw16.CheckOrder'. -/
def checkOrderUptoCard : Claim7 := { stood := { row := checkOrderUptoRow, standIns := [], harness := (true, "2637db0cd7ba8a1aa4c994a9601f08b195f5c6464e8937b8ea253dca9ada99ca"), looks := false }, kinds := [], alts := [], laidByText := true, laidKinds := [.data, .data, .data], laidTests := true, laidLooks := .later }
def CheckOrderUptoCardSaid : Prop := Claim7.holds Tryz.pinned (.plain (OpenSpec.upto checkOrderSpec)) checkOrderUptoCard

/-- THE SECOND FORM's CARD OF 'hemiolalaw16.CheckIds'. -/
def checkIdsUptoCard : Claim7 := { stood := { row := checkIdsUptoRow, standIns := [], harness := (true, "2637db0cd7ba8a1aa4c994a9601f08b195f5c6464e8937b8ea253dca9ada99ca"), looks := false }, kinds := [], alts := [], laidByText := true, laidKinds := [.data, .data, .data], laidTests := true, laidLooks := .later }
def CheckIdsUptoCardSaid : Prop := Claim7.holds Tryz.pinned (.plain (OpenSpec.upto checkIdsSpec)) checkIdsUptoCard

/-- THE SECOND FORM's CARD OF 'hemiolalaw16.CheckTies'. -/
def checkTiesUptoCard : Claim7 := { stood := { row := checkTiesUptoRow, standIns := [], harness := (true, "2637db0cd7ba8a1aa4c994a9601f08b195f5c6464e8937b8ea253dca9ada99ca"), looks := false }, kinds := [], alts := [], laidByText := true, laidKinds := [.data, .data, .data], laidTests := true, laidLooks := .later }
def CheckTiesUptoCardSaid : Prop := Claim7.holds Tryz.pinned (.plain (OpenSpec.upto checkTiesSpec)) checkTiesUptoCard

/-- THE SECOND FORM's CARD OF 'hemiolalaw16.CheckSpanners'. -/
def checkSpannersUptoCard : Claim7 := { stood := { row := checkSpannersUptoRow, standIns := [], harness := (true, "2637db0cd7ba8a1aa4c994a9601f08b195f5c6464e8937b8ea253dca9ada99ca"), looks := false }, kinds := [], alts := [], laidByText := true, laidKinds := [.data, .data, .data], laidTests := true, laidLooks := .later }
def CheckSpannersUptoCardSaid : Prop := Claim7.holds Tryz.pinned (.plain (OpenSpec.upto checkSpannersSpec)) checkSpannersUptoCard

/-- THE SECOND FORM's CARD OF 'hemiolalaw16.CheckVoices'. -/
def checkVoicesUptoCard : Claim7 := { stood := { row := checkVoicesUptoRow, standIns := [], harness := (true, "2637db0cd7ba8a1aa4c994a9601f08b195f5c6464e8937b8ea253dca9ada99ca"), looks := false }, kinds := [], alts := [], laidByText := true, laidKinds := [.data, .data, .data], laidTests := true, laidLooks := .later }
def CheckVoicesUptoCardSaid : Prop := Claim7.holds Tryz.pinned (.plain (OpenSpec.upto checkVoicesSpec)) checkVoicesUptoCard

/-- THE SECOND FORM's CARD OF 'hemiolalaw16.CheckRules'. -/
def checkRulesUptoCard : Claim7 := { stood := { row := checkRulesUptoRow, standIns := [], harness := (true, "2637db0cd7ba8a1aa4c994a9601f08b195f5c6464e8937b8ea253dca9ada99ca"), looks := false }, kinds := [], alts := [], laidByText := true, laidKinds := [.data, .data, .data], laidTests := true, laidLooks := .later }
def CheckRulesUptoCardSaid : Prop := Claim7.holds Tryz.pinned (.plain (OpenSpec.upto checkRulesSpec)) checkRulesUptoCard

/-- THE SECOND FORM's CARD OF 'hemiolalaw16.CheckRenumbers'. -/
def checkRenumbersUptoCard : Claim7 := { stood := { row := checkRenumbersUptoRow, standIns := [], harness := (true, "2637db0cd7ba8a1aa4c994a9601f08b195f5c6464e8937b8ea253dca9ada99ca"), looks := false }, kinds := [], alts := [], laidByText := true, laidKinds := [.data, .data, .data], laidTests := true, laidLooks := .later }
def CheckRenumbersUptoCardSaid : Prop := Claim7.holds Tryz.pinned (.plain (OpenSpec.upto checkRenumbersSpec)) checkRenumbersUptoCard
end Rows
end Go.Proofs.YtnjmaohblihppaaGreatDoor
