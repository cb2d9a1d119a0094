/-
  No cell of these rows narrows 'for every input' (looked for: loops, veiled, ifaces, maps, wideKeys, modest, calm, conditions, laid).
  DERIVED. THE GIVEN ROWS OF THIS SEAT. 7 by the template 'for every input the law returns true; each argument reads behind the call as it read before'; 0 by the template 'total and deterministic' (their statements: YtaklcnhenapckaaTotals.lean).
  GIVEN WITH THE SEED: the statements are not yours to turn. If you find one false, say at which input.
  Laid BY PROGRAM, IN A SANDBOX (cutbox-rows.mjs): the forced cells as the released guide's own fill.sh prints them over the translation da50d8de99867e78… (all of the seat's roots in one cut). By AI agents, Wed Nov 11 2026. No macro, syntax, notation, axiom, sorry.
-/
import Derived.Test.YtaklcnhenapckaaChecked
import GoSem.Claim
import GoSem.ClaimJoined
import GoSem.ClaimMapViews
import Derived.JoinedTies
import Derived.KernelRfl
namespace Go.Proofs.Ytaklcnhenapckaa
/- THE CELL 'sum', in the pinned program and in every row, IS THE sha256 OF THE DUMP (.gsa) THAT YtaklcnhenapckaaProg.lean LOADS. Nothing in Lean hashes anything: it is a label: what it is worth is what the hold of that sum in a sandbox is worth. -/
noncomputable def Try.pinned : Pinned := { name := "ytaklcnhenapckaa", sum := "da50d8de99867e7823983070cb140c1c89c1843a46277b2f21febe3af9c1504a", checked := Try.checked }
namespace Rows
def none {H : Type} : Left H := { results := [], args := [] }

/-- 'hemiolalaw45.OrnamentNeighbours': WHATEVER THE INPUT: true; the input reads as it did. -/
def ornamentNeighboursSpec : ChangeSpec := { name := "ornamentNeighbours", fn := fun _ => fun
  | [d1, d2] => { results := [.lit (.bool true)], args := [d1, d2] }
  | _ => none }
def ornamentNeighboursRow : OpenClaim := { program := "ytaklcnhenapckaa", sum := "da50d8de99867e7823983070cb140c1c89c1843a46277b2f21febe3af9c1504a", func := "hemiola/hemiolalaw45.OrnamentNeighbours", spec := "ornamentNeighbours", apart := false }
def OrnamentNeighboursSaid : Prop := ornamentNeighboursRow.holds Try.pinned (OpenSpec.ofChange ornamentNeighboursSpec)

/-- ITS FALSE NEIGHBOUR: 'it returns false'. Refute it at one input. -/
def ornamentNeighboursWrong : ChangeSpec := { name := "ornamentNeighbours", fn := fun _ => fun
  | [d1, d2] => { results := [.lit (.bool false)], args := [d1, d2] }
  | _ => none }
def OrnamentNeighboursWrongFalsely : Prop := ornamentNeighboursRow.holds Try.pinned (OpenSpec.ofChange ornamentNeighboursWrong)

/-- 'hemiolalaw45.OrnamentExpands': WHATEVER THE INPUT: true; the input reads as it did. -/
def ornamentExpandsSpec : ChangeSpec := { name := "ornamentExpands", fn := fun _ => fun
  | [d1, d2, d3] => { results := [.lit (.bool true)], args := [d1, d2, d3] }
  | _ => none }
def ornamentExpandsRow : OpenClaim := { program := "ytaklcnhenapckaa", sum := "da50d8de99867e7823983070cb140c1c89c1843a46277b2f21febe3af9c1504a", func := "hemiola/hemiolalaw45.OrnamentExpands", spec := "ornamentExpands", apart := false }
def OrnamentExpandsSaid : Prop := ornamentExpandsRow.holds Try.pinned (OpenSpec.ofChange ornamentExpandsSpec)

/-- ITS FALSE NEIGHBOUR: 'it returns false'. Refute it at one input. -/
def ornamentExpandsWrong : ChangeSpec := { name := "ornamentExpands", fn := fun _ => fun
  | [d1, d2, d3] => { results := [.lit (.bool false)], args := [d1, d2, d3] }
  | _ => none }
def OrnamentExpandsWrongFalsely : Prop := ornamentExpandsRow.holds Try.pinned (OpenSpec.ofChange ornamentExpandsWrong)

/-- 'hemiolalaw45.OrnamentCovers': WHATEVER THE INPUT: true; the input reads as it did. -/
def ornamentCoversSpec : ChangeSpec := { name := "ornamentCovers", fn := fun _ => fun
  | [d1, d2, d3] => { results := [.lit (.bool true)], args := [d1, d2, d3] }
  | _ => none }
def ornamentCoversRow : OpenClaim := { program := "ytaklcnhenapckaa", sum := "da50d8de99867e7823983070cb140c1c89c1843a46277b2f21febe3af9c1504a", func := "hemiola/hemiolalaw45.OrnamentCovers", spec := "ornamentCovers", apart := false }
def OrnamentCoversSaid : Prop := ornamentCoversRow.holds Try.pinned (OpenSpec.ofChange ornamentCoversSpec)

/-- ITS FALSE NEIGHBOUR: 'it returns false'. Refute it at one input. -/
def ornamentCoversWrong : ChangeSpec := { name := "ornamentCovers", fn := fun _ => fun
  | [d1, d2, d3] => { results := [.lit (.bool false)], args := [d1, d2, d3] }
  | _ => none }
def OrnamentCoversWrongFalsely : Prop := ornamentCoversRow.holds Try.pinned (OpenSpec.ofChange ornamentCoversWrong)

/-- 'hemiolalaw45.OrnamentSwings': WHATEVER THE INPUT: true; the input reads as it did. -/
def ornamentSwingsSpec : ChangeSpec := { name := "ornamentSwings", fn := fun _ => fun
  | [d1, d2, d3] => { results := [.lit (.bool true)], args := [d1, d2, d3] }
  | _ => none }
def ornamentSwingsRow : OpenClaim := { program := "ytaklcnhenapckaa", sum := "da50d8de99867e7823983070cb140c1c89c1843a46277b2f21febe3af9c1504a", func := "hemiola/hemiolalaw45.OrnamentSwings", spec := "ornamentSwings", apart := false }
def OrnamentSwingsSaid : Prop := ornamentSwingsRow.holds Try.pinned (OpenSpec.ofChange ornamentSwingsSpec)

/-- ITS FALSE NEIGHBOUR: 'it returns false'. Refute it at one input. -/
def ornamentSwingsWrong : ChangeSpec := { name := "ornamentSwings", fn := fun _ => fun
  | [d1, d2, d3] => { results := [.lit (.bool false)], args := [d1, d2, d3] }
  | _ => none }
def OrnamentSwingsWrongFalsely : Prop := ornamentSwingsRow.holds Try.pinned (OpenSpec.ofChange ornamentSwingsWrong)

/-- 'hemiolalaw45.OrnamentBeats': WHATEVER THE INPUT: true; the input reads as it did. -/
def ornamentBeatsSpec : ChangeSpec := { name := "ornamentBeats", fn := fun _ => fun
  | [d1, d2, d3] => { results := [.lit (.bool true)], args := [d1, d2, d3] }
  | _ => none }
def ornamentBeatsRow : OpenClaim := { program := "ytaklcnhenapckaa", sum := "da50d8de99867e7823983070cb140c1c89c1843a46277b2f21febe3af9c1504a", func := "hemiola/hemiolalaw45.OrnamentBeats", spec := "ornamentBeats", apart := false }
def OrnamentBeatsSaid : Prop := ornamentBeatsRow.holds Try.pinned (OpenSpec.ofChange ornamentBeatsSpec)

/-- ITS FALSE NEIGHBOUR: 'it returns false'. Refute it at one input. -/
def ornamentBeatsWrong : ChangeSpec := { name := "ornamentBeats", fn := fun _ => fun
  | [d1, d2, d3] => { results := [.lit (.bool false)], args := [d1, d2, d3] }
  | _ => none }
def OrnamentBeatsWrongFalsely : Prop := ornamentBeatsRow.holds Try.pinned (OpenSpec.ofChange ornamentBeatsWrong)

/-- 'hemiolalaw45.OrnamentGraces': WHATEVER THE INPUT: true; the input reads as it did. -/
def ornamentGracesSpec : ChangeSpec := { name := "ornamentGraces", fn := fun _ => fun
  | [d1, d2, d3] => { results := [.lit (.bool true)], args := [d1, d2, d3] }
  | _ => none }
def ornamentGracesRow : OpenClaim := { program := "ytaklcnhenapckaa", sum := "da50d8de99867e7823983070cb140c1c89c1843a46277b2f21febe3af9c1504a", func := "hemiola/hemiolalaw45.OrnamentGraces", spec := "ornamentGraces", apart := false }
def OrnamentGracesSaid : Prop := ornamentGracesRow.holds Try.pinned (OpenSpec.ofChange ornamentGracesSpec)

/-- ITS FALSE NEIGHBOUR: 'it returns false'. Refute it at one input. -/
def ornamentGracesWrong : ChangeSpec := { name := "ornamentGraces", fn := fun _ => fun
  | [d1, d2, d3] => { results := [.lit (.bool false)], args := [d1, d2, d3] }
  | _ => none }
def OrnamentGracesWrongFalsely : Prop := ornamentGracesRow.holds Try.pinned (OpenSpec.ofChange ornamentGracesWrong)

/-- 'hemiolalaw45.OrnamentGraceTime': WHATEVER THE INPUT: true; the input reads as it did. -/
def ornamentGraceTimeSpec : ChangeSpec := { name := "ornamentGraceTime", fn := fun _ => fun
  | [d1, d2, d3] => { results := [.lit (.bool true)], args := [d1, d2, d3] }
  | _ => none }
def ornamentGraceTimeRow : OpenClaim := { program := "ytaklcnhenapckaa", sum := "da50d8de99867e7823983070cb140c1c89c1843a46277b2f21febe3af9c1504a", func := "hemiola/hemiolalaw45.OrnamentGraceTime", spec := "ornamentGraceTime", apart := false }
def OrnamentGraceTimeSaid : Prop := ornamentGraceTimeRow.holds Try.pinned (OpenSpec.ofChange ornamentGraceTimeSpec)

/-- ITS FALSE NEIGHBOUR: 'it returns false'. Refute it at one input. -/
def ornamentGraceTimeWrong : ChangeSpec := { name := "ornamentGraceTime", fn := fun _ => fun
  | [d1, d2, d3] => { results := [.lit (.bool false)], args := [d1, d2, d3] }
  | _ => none }
def OrnamentGraceTimeWrongFalsely : Prop := ornamentGraceTimeRow.holds Try.pinned (OpenSpec.ofChange ornamentGraceTimeWrong)

/- THE SECOND FORM. 'bulk': how many values and letters a reading holds, each counted each time it is reached (what is shared counts as often as it is met; a slice's spare places count too). A statement '..UptoSaid' is the law's where the arguments, and the package variables that the reading takes, are together of bulk at most 1048576: NARROWER than '..Said'. Prove '..Said' where nothing that the law and all that it calls make is longer than what came in: it says more and counts as full. Else prove '..UptoSaid'. A law counts once. -/
mutual
def uptoBulk {H : Type} : DataW H → Nat
  | .lit (.string bytes) => bytes.length + 1
  | .lit _ => 1
  | .nil => 1
  | .ptr d => uptoBulk d + 1
  | .slice elems spare => uptoBulkAll elems + uptoBulkAll spare + 1
  | .agg parts => uptoBulkAll parts + 1
  | .iface _ d => uptoBulk d + 1
  | .map entries => uptoBulkEntries entries + 1
  | .held _ => 1
def uptoBulkAll {H : Type} : List (DataW H) → Nat
  | [] => 0
  | d :: r => uptoBulk d + uptoBulkAll r
def uptoBulkEntries {H : Type} : List (Lit × DataW H) → Nat
  | [] => 0
  | x :: r => uptoBulkEntry x + uptoBulkEntries r
def uptoBulkEntry {H : Type} : Lit × DataW H → Nat
  | (.string bytes, d) => bytes.length + uptoBulk d + 1
  | (_, d) => uptoBulk d + 1
 end
def uptoSmall : (H : Type) → List (DataW H) → Bool := fun _ ds => decide (uptoBulkAll ds ≤ 1048576)
def OpenSpec.upto (s : _root_.Go.ChangeSpec) : _root_.Go.OpenSpec := { _root_.Go.OpenSpec.ofChange s with cond := some uptoSmall }

/-- 'hemiolalaw45.OrnamentNeighbours', WHERE WHAT IT READS IS OF BULK AT MOST 1048576: true; the input reads as it did. -/
def ornamentNeighboursUptoRow : OpenClaim := { program := "ytaklcnhenapckaa", sum := "da50d8de99867e7823983070cb140c1c89c1843a46277b2f21febe3af9c1504a", func := "hemiola/hemiolalaw45.OrnamentNeighbours", spec := "ornamentNeighbours", apart := false, narrowed := true }
def OrnamentNeighboursUptoSaid : Prop := ornamentNeighboursUptoRow.holds Try.pinned (OpenSpec.upto ornamentNeighboursSpec)

/-- 'hemiolalaw45.OrnamentExpands', WHERE WHAT IT READS IS OF BULK AT MOST 1048576: true; the input reads as it did. -/
def ornamentExpandsUptoRow : OpenClaim := { program := "ytaklcnhenapckaa", sum := "da50d8de99867e7823983070cb140c1c89c1843a46277b2f21febe3af9c1504a", func := "hemiola/hemiolalaw45.OrnamentExpands", spec := "ornamentExpands", apart := false, narrowed := true }
def OrnamentExpandsUptoSaid : Prop := ornamentExpandsUptoRow.holds Try.pinned (OpenSpec.upto ornamentExpandsSpec)

/-- 'hemiolalaw45.OrnamentCovers', WHERE WHAT IT READS IS OF BULK AT MOST 1048576: true; the input reads as it did. -/
def ornamentCoversUptoRow : OpenClaim := { program := "ytaklcnhenapckaa", sum := "da50d8de99867e7823983070cb140c1c89c1843a46277b2f21febe3af9c1504a", func := "hemiola/hemiolalaw45.OrnamentCovers", spec := "ornamentCovers", apart := false, narrowed := true }
def OrnamentCoversUptoSaid : Prop := ornamentCoversUptoRow.holds Try.pinned (OpenSpec.upto ornamentCoversSpec)

/-- 'hemiolalaw45.OrnamentSwings', WHERE WHAT IT READS IS OF BULK AT MOST 1048576: true; the input reads as it did. -/
def ornamentSwingsUptoRow : OpenClaim := { program := "ytaklcnhenapckaa", sum := "da50d8de99867e7823983070cb140c1c89c1843a46277b2f21febe3af9c1504a", func := "hemiola/hemiolalaw45.OrnamentSwings", spec := "ornamentSwings", apart := false, narrowed := true }
def OrnamentSwingsUptoSaid : Prop := ornamentSwingsUptoRow.holds Try.pinned (OpenSpec.upto ornamentSwingsSpec)

/-- 'hemiolalaw45.OrnamentBeats', WHERE WHAT IT READS IS OF BULK AT MOST 1048576: true; the input reads as it did. -/
def ornamentBeatsUptoRow : OpenClaim := { program := "ytaklcnhenapckaa", sum := "da50d8de99867e7823983070cb140c1c89c1843a46277b2f21febe3af9c1504a", func := "hemiola/hemiolalaw45.OrnamentBeats", spec := "ornamentBeats", apart := false, narrowed := true }
def OrnamentBeatsUptoSaid : Prop := ornamentBeatsUptoRow.holds Try.pinned (OpenSpec.upto ornamentBeatsSpec)

/-- 'hemiolalaw45.OrnamentGraces', WHERE WHAT IT READS IS OF BULK AT MOST 1048576: true; the input reads as it did. -/
def ornamentGracesUptoRow : OpenClaim := { program := "ytaklcnhenapckaa", sum := "da50d8de99867e7823983070cb140c1c89c1843a46277b2f21febe3af9c1504a", func := "hemiola/hemiolalaw45.OrnamentGraces", spec := "ornamentGraces", apart := false, narrowed := true }
def OrnamentGracesUptoSaid : Prop := ornamentGracesUptoRow.holds Try.pinned (OpenSpec.upto ornamentGracesSpec)

/-- 'hemiolalaw45.OrnamentGraceTime', WHERE WHAT IT READS IS OF BULK AT MOST 1048576: true; the input reads as it did. -/
def ornamentGraceTimeUptoRow : OpenClaim := { program := "ytaklcnhenapckaa", sum := "da50d8de99867e7823983070cb140c1c89c1843a46277b2f21febe3af9c1504a", func := "hemiola/hemiolalaw45.OrnamentGraceTime", spec := "ornamentGraceTime", apart := false, narrowed := true }
def OrnamentGraceTimeUptoSaid : Prop := ornamentGraceTimeUptoRow.holds Try.pinned (OpenSpec.upto ornamentGraceTimeSpec)

end Rows
end Go.Proofs.Ytaklcnhenapckaa
