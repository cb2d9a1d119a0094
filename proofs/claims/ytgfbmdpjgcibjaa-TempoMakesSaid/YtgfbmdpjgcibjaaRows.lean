/-
  No cell of these rows narrows 'for every input' (looked for: loops, veiled, ifaces, maps, wideKeys, modest, calm, conditions, laid).
  DERIVED. THE GIVEN ROWS OF THIS SEAT. 8 by the template 'for every input the law returns true; each argument reads behind the call as it read before'; 0 by the template 'total and deterministic' (their statements: YtgfbmdpjgcibjaaTotals.lean).
  GIVEN WITH THE SEED: the statements are not yours to turn. If you find one false, say at which input.
  Laid BY PROGRAM, IN A SANDBOX (cutbox-rows.mjs): the forced cells as the released guide's own fill.sh prints them over the translation 394693c357827a97… (all of the seat's roots in one cut). By AI agents, Wed Nov 11 2026. No macro, syntax, notation, axiom, sorry.
-/
import Derived.Test.YtgfbmdpjgcibjaaChecked
import GoSem.Claim
import GoSem.ClaimJoined
import GoSem.ClaimMapViews
import Derived.JoinedTies
import Derived.KernelRfl
namespace Go.Proofs.Ytgfbmdpjgcibjaa
/- THE CELL 'sum', in the pinned program and in every row, IS THE sha256 OF THE DUMP (.gsa) THAT YtgfbmdpjgcibjaaProg.lean LOADS. Nothing in Lean hashes anything: it is a label: what it is worth is what the hold of that sum in a sandbox is worth. -/
noncomputable def Try.pinned : Pinned := { name := "ytgfbmdpjgcibjaa", sum := "394693c357827a97d6cc2256e5ecdc45824769582485bdce80dfc69f237b2539", checked := Try.checked }
namespace Rows
def none {H : Type} : Left H := { results := [], args := [] }

/-- 'hemiolalaw44.TempoFloors': WHATEVER THE INPUT: true; the input reads as it did. -/
def tempoFloorsSpec : ChangeSpec := { name := "tempoFloors", fn := fun _ => fun
  | [d1, d2, d3] => { results := [.lit (.bool true)], args := [d1, d2, d3] }
  | _ => none }
def tempoFloorsRow : OpenClaim := { program := "ytgfbmdpjgcibjaa", sum := "394693c357827a97d6cc2256e5ecdc45824769582485bdce80dfc69f237b2539", func := "hemiola/hemiolalaw44.TempoFloors", spec := "tempoFloors", inPlace := ["math/bits.Add64"], unfollowed := true, recurses := true, named := ["math/bits.divideError", "math/bits.overflowError"], apart := false }
def TempoFloorsSaid : Prop := tempoFloorsRow.holds Try.pinned (OpenSpec.ofChange tempoFloorsSpec)

/-- ITS FALSE NEIGHBOUR: 'it returns false'. Refute it at one input. -/
def tempoFloorsWrong : ChangeSpec := { name := "tempoFloors", fn := fun _ => fun
  | [d1, d2, d3] => { results := [.lit (.bool false)], args := [d1, d2, d3] }
  | _ => none }
def TempoFloorsWrongFalsely : Prop := tempoFloorsRow.holds Try.pinned (OpenSpec.ofChange tempoFloorsWrong)

/-- 'hemiolalaw44.TempoGrows': WHATEVER THE INPUT: true; the input reads as it did. -/
def tempoGrowsSpec : ChangeSpec := { name := "tempoGrows", fn := fun _ => fun
  | [d1, d2] => { results := [.lit (.bool true)], args := [d1, d2] }
  | _ => none }
def tempoGrowsRow : OpenClaim := { program := "ytgfbmdpjgcibjaa", sum := "394693c357827a97d6cc2256e5ecdc45824769582485bdce80dfc69f237b2539", func := "hemiola/hemiolalaw44.TempoGrows", spec := "tempoGrows", inPlace := ["math/bits.Add64"], unfollowed := true, recurses := true, named := ["math/bits.divideError", "math/bits.overflowError"], apart := false }
def TempoGrowsSaid : Prop := tempoGrowsRow.holds Try.pinned (OpenSpec.ofChange tempoGrowsSpec)

/-- ITS FALSE NEIGHBOUR: 'it returns false'. Refute it at one input. -/
def tempoGrowsWrong : ChangeSpec := { name := "tempoGrows", fn := fun _ => fun
  | [d1, d2] => { results := [.lit (.bool false)], args := [d1, d2] }
  | _ => none }
def TempoGrowsWrongFalsely : Prop := tempoGrowsRow.holds Try.pinned (OpenSpec.ofChange tempoGrowsWrong)

/-- 'hemiolalaw44.TempoDoubles': WHATEVER THE INPUT: true; the input reads as it did. -/
def tempoDoublesSpec : ChangeSpec := { name := "tempoDoubles", fn := fun _ => fun
  | [d1, d2] => { results := [.lit (.bool true)], args := [d1, d2] }
  | _ => none }
def tempoDoublesRow : OpenClaim := { program := "ytgfbmdpjgcibjaa", sum := "394693c357827a97d6cc2256e5ecdc45824769582485bdce80dfc69f237b2539", func := "hemiola/hemiolalaw44.TempoDoubles", spec := "tempoDoubles", inPlace := ["math/bits.Add64"], unfollowed := true, recurses := true, named := ["math/bits.divideError", "math/bits.overflowError"], apart := false }
def TempoDoublesSaid : Prop := tempoDoublesRow.holds Try.pinned (OpenSpec.ofChange tempoDoublesSpec)

/-- ITS FALSE NEIGHBOUR: 'it returns false'. Refute it at one input. -/
def tempoDoublesWrong : ChangeSpec := { name := "tempoDoubles", fn := fun _ => fun
  | [d1, d2] => { results := [.lit (.bool false)], args := [d1, d2] }
  | _ => none }
def TempoDoublesWrongFalsely : Prop := tempoDoublesRow.holds Try.pinned (OpenSpec.ofChange tempoDoublesWrong)

/-- 'hemiolalaw44.TempoIntegrals': WHATEVER THE INPUT: true; the input reads as it did. -/
def tempoIntegralsSpec : ChangeSpec := { name := "tempoIntegrals", fn := fun _ => fun
  | [d1, d2, d3] => { results := [.lit (.bool true)], args := [d1, d2, d3] }
  | _ => none }
def tempoIntegralsRow : OpenClaim := { program := "ytgfbmdpjgcibjaa", sum := "394693c357827a97d6cc2256e5ecdc45824769582485bdce80dfc69f237b2539", func := "hemiola/hemiolalaw44.TempoIntegrals", spec := "tempoIntegrals", inPlace := ["math/bits.Add64", "math/bits.Sub64"], unfollowed := true, recurses := true, named := ["math/bits.divideError", "math/bits.overflowError"], apart := false }
def TempoIntegralsSaid : Prop := tempoIntegralsRow.holds Try.pinned (OpenSpec.ofChange tempoIntegralsSpec)

/-- ITS FALSE NEIGHBOUR: 'it returns false'. Refute it at one input. -/
def tempoIntegralsWrong : ChangeSpec := { name := "tempoIntegrals", fn := fun _ => fun
  | [d1, d2, d3] => { results := [.lit (.bool false)], args := [d1, d2, d3] }
  | _ => none }
def TempoIntegralsWrongFalsely : Prop := tempoIntegralsRow.holds Try.pinned (OpenSpec.ofChange tempoIntegralsWrong)

/-- 'hemiolalaw44.TempoInverts': WHATEVER THE INPUT: true; the input reads as it did. -/
def tempoInvertsSpec : ChangeSpec := { name := "tempoInverts", fn := fun _ => fun
  | [d1, d2] => { results := [.lit (.bool true)], args := [d1, d2] }
  | _ => none }
def tempoInvertsRow : OpenClaim := { program := "ytgfbmdpjgcibjaa", sum := "394693c357827a97d6cc2256e5ecdc45824769582485bdce80dfc69f237b2539", func := "hemiola/hemiolalaw44.TempoInverts", spec := "tempoInverts", inPlace := ["math/bits.Add64"], unfollowed := true, recurses := true, named := ["math/bits.divideError", "math/bits.overflowError"], apart := false }
def TempoInvertsSaid : Prop := tempoInvertsRow.holds Try.pinned (OpenSpec.ofChange tempoInvertsSpec)

/-- ITS FALSE NEIGHBOUR: 'it returns false'. Refute it at one input. -/
def tempoInvertsWrong : ChangeSpec := { name := "tempoInverts", fn := fun _ => fun
  | [d1, d2] => { results := [.lit (.bool false)], args := [d1, d2] }
  | _ => none }
def TempoInvertsWrongFalsely : Prop := tempoInvertsRow.holds Try.pinned (OpenSpec.ofChange tempoInvertsWrong)

/-- 'hemiolalaw44.TempoTimes': WHATEVER THE INPUT: true; the input reads as it did. -/
def tempoTimesSpec : ChangeSpec := { name := "tempoTimes", fn := fun _ => fun
  | [d1, d2] => { results := [.lit (.bool true)], args := [d1, d2] }
  | _ => none }
def tempoTimesRow : OpenClaim := { program := "ytgfbmdpjgcibjaa", sum := "394693c357827a97d6cc2256e5ecdc45824769582485bdce80dfc69f237b2539", func := "hemiola/hemiolalaw44.TempoTimes", spec := "tempoTimes", inPlace := ["math/bits.Add64", "math/bits.Sub64"], unfollowed := true, recurses := true, named := ["math/bits.divideError", "math/bits.overflowError"], apart := false }
def TempoTimesSaid : Prop := tempoTimesRow.holds Try.pinned (OpenSpec.ofChange tempoTimesSpec)

/-- ITS FALSE NEIGHBOUR: 'it returns false'. Refute it at one input. -/
def tempoTimesWrong : ChangeSpec := { name := "tempoTimes", fn := fun _ => fun
  | [d1, d2] => { results := [.lit (.bool false)], args := [d1, d2] }
  | _ => none }
def TempoTimesWrongFalsely : Prop := tempoTimesRow.holds Try.pinned (OpenSpec.ofChange tempoTimesWrong)

/-- 'hemiolalaw44.TempoMakes': WHATEVER THE INPUT: true; the input reads as it did. -/
def tempoMakesSpec : ChangeSpec := { name := "tempoMakes", fn := fun _ => fun
  | [d] => { results := [.lit (.bool true)], args := [d] }
  | _ => none }
def tempoMakesRow : OpenClaim := { program := "ytgfbmdpjgcibjaa", sum := "394693c357827a97d6cc2256e5ecdc45824769582485bdce80dfc69f237b2539", func := "hemiola/hemiolalaw44.TempoMakes", spec := "tempoMakes", inPlace := ["math/bits.Add64", "math/bits.Sub64"], unfollowed := true, recurses := true, named := ["math/bits.divideError", "math/bits.overflowError"], apart := false }
def TempoMakesSaid : Prop := tempoMakesRow.holds Try.pinned (OpenSpec.ofChange tempoMakesSpec)

/-- ITS FALSE NEIGHBOUR: 'it returns false'. Refute it at one input. -/
def tempoMakesWrong : ChangeSpec := { name := "tempoMakes", fn := fun _ => fun
  | [d] => { results := [.lit (.bool false)], args := [d] }
  | _ => none }
def TempoMakesWrongFalsely : Prop := tempoMakesRow.holds Try.pinned (OpenSpec.ofChange tempoMakesWrong)

/-- 'hemiolalaw44.TempoEquals': WHATEVER THE INPUT: true; the input reads as it did. -/
def tempoEqualsSpec : ChangeSpec := { name := "tempoEquals", fn := fun _ => fun
  | [d1, d2] => { results := [.lit (.bool true)], args := [d1, d2] }
  | _ => none }
def tempoEqualsRow : OpenClaim := { program := "ytgfbmdpjgcibjaa", sum := "394693c357827a97d6cc2256e5ecdc45824769582485bdce80dfc69f237b2539", func := "hemiola/hemiolalaw44.TempoEquals", spec := "tempoEquals", inPlace := ["math/bits.Add64", "math/bits.Sub64"], unfollowed := true, recurses := true, named := ["math/bits.divideError", "math/bits.overflowError"], apart := false }
def TempoEqualsSaid : Prop := tempoEqualsRow.holds Try.pinned (OpenSpec.ofChange tempoEqualsSpec)

/-- ITS FALSE NEIGHBOUR: 'it returns false'. Refute it at one input. -/
def tempoEqualsWrong : ChangeSpec := { name := "tempoEquals", fn := fun _ => fun
  | [d1, d2] => { results := [.lit (.bool false)], args := [d1, d2] }
  | _ => none }
def TempoEqualsWrongFalsely : Prop := tempoEqualsRow.holds Try.pinned (OpenSpec.ofChange tempoEqualsWrong)

/- THE SECOND FORM. 'bulk': how many values and letters a reading holds, each counted each time it is reached (what is shared counts as often as it is met; a slice's spare places count too). A statement '..UptoSaid' is the law's where the arguments, and the package variables that the reading takes, are together of bulk at most 1048576: NARROWER than '..Said'. Prove '..Said' where nothing that the law and all that it calls make is longer than what came in: it says more and counts as full. Else prove '..UptoSaid'. A law counts once. -/
mutual
def uptoBulk {H : Type} : DataW H → Nat
  | .lit (.string bytes) => bytes.length + 1
  | .lit _ => 1
  | .nil => 1
  | .ptr d => uptoBulk d + 1
  | .slice elems spare => uptoBulkAll elems + uptoBulkAll spare + 1
  | .agg parts => uptoBulkAll parts + 1
  | .iface _ d => uptoBulk d + 1
  | .map entries => uptoBulkEntries entries + 1
  | .held _ => 1
def uptoBulkAll {H : Type} : List (DataW H) → Nat
  | [] => 0
  | d :: r => uptoBulk d + uptoBulkAll r
def uptoBulkEntries {H : Type} : List (Lit × DataW H) → Nat
  | [] => 0
  | x :: r => uptoBulkEntry x + uptoBulkEntries r
def uptoBulkEntry {H : Type} : Lit × DataW H → Nat
  | (.string bytes, d) => bytes.length + uptoBulk d + 1
  | (_, d) => uptoBulk d + 1
 end
def uptoSmall : (H : Type) → List (DataW H) → Bool := fun _ ds => decide (uptoBulkAll ds ≤ 1048576)
def OpenSpec.upto (s : _root_.Go.ChangeSpec) : _root_.Go.OpenSpec := { _root_.Go.OpenSpec.ofChange s with cond := some uptoSmall }

/-- 'hemiolalaw44.TempoFloors', WHERE WHAT IT READS IS OF BULK AT MOST 1048576: true; the input reads as it did. -/
def tempoFloorsUptoRow : OpenClaim := { program := "ytgfbmdpjgcibjaa", sum := "394693c357827a97d6cc2256e5ecdc45824769582485bdce80dfc69f237b2539", func := "hemiola/hemiolalaw44.TempoFloors", spec := "tempoFloors", inPlace := ["math/bits.Add64"], unfollowed := true, recurses := true, named := ["math/bits.divideError", "math/bits.overflowError"], apart := false, narrowed := true }
def TempoFloorsUptoSaid : Prop := tempoFloorsUptoRow.holds Try.pinned (OpenSpec.upto tempoFloorsSpec)

/-- 'hemiolalaw44.TempoGrows', WHERE WHAT IT READS IS OF BULK AT MOST 1048576: true; the input reads as it did. -/
def tempoGrowsUptoRow : OpenClaim := { program := "ytgfbmdpjgcibjaa", sum := "394693c357827a97d6cc2256e5ecdc45824769582485bdce80dfc69f237b2539", func := "hemiola/hemiolalaw44.TempoGrows", spec := "tempoGrows", inPlace := ["math/bits.Add64"], unfollowed := true, recurses := true, named := ["math/bits.divideError", "math/bits.overflowError"], apart := false, narrowed := true }
def TempoGrowsUptoSaid : Prop := tempoGrowsUptoRow.holds Try.pinned (OpenSpec.upto tempoGrowsSpec)

/-- 'hemiolalaw44.TempoDoubles', WHERE WHAT IT READS IS OF BULK AT MOST 1048576: true; the input reads as it did. -/
def tempoDoublesUptoRow : OpenClaim := { program := "ytgfbmdpjgcibjaa", sum := "394693c357827a97d6cc2256e5ecdc45824769582485bdce80dfc69f237b2539", func := "hemiola/hemiolalaw44.TempoDoubles", spec := "tempoDoubles", inPlace := ["math/bits.Add64"], unfollowed := true, recurses := true, named := ["math/bits.divideError", "math/bits.overflowError"], apart := false, narrowed := true }
def TempoDoublesUptoSaid : Prop := tempoDoublesUptoRow.holds Try.pinned (OpenSpec.upto tempoDoublesSpec)

/-- 'hemiolalaw44.TempoIntegrals', WHERE WHAT IT READS IS OF BULK AT MOST 1048576: true; the input reads as it did. -/
def tempoIntegralsUptoRow : OpenClaim := { program := "ytgfbmdpjgcibjaa", sum := "394693c357827a97d6cc2256e5ecdc45824769582485bdce80dfc69f237b2539", func := "hemiola/hemiolalaw44.TempoIntegrals", spec := "tempoIntegrals", inPlace := ["math/bits.Add64", "math/bits.Sub64"], unfollowed := true, recurses := true, named := ["math/bits.divideError", "math/bits.overflowError"], apart := false, narrowed := true }
def TempoIntegralsUptoSaid : Prop := tempoIntegralsUptoRow.holds Try.pinned (OpenSpec.upto tempoIntegralsSpec)

/-- 'hemiolalaw44.TempoInverts', WHERE WHAT IT READS IS OF BULK AT MOST 1048576: true; the input reads as it did. -/
def tempoInvertsUptoRow : OpenClaim := { program := "ytgfbmdpjgcibjaa", sum := "394693c357827a97d6cc2256e5ecdc45824769582485bdce80dfc69f237b2539", func := "hemiola/hemiolalaw44.TempoInverts", spec := "tempoInverts", inPlace := ["math/bits.Add64"], unfollowed := true, recurses := true, named := ["math/bits.divideError", "math/bits.overflowError"], apart := false, narrowed := true }
def TempoInvertsUptoSaid : Prop := tempoInvertsUptoRow.holds Try.pinned (OpenSpec.upto tempoInvertsSpec)

/-- 'hemiolalaw44.TempoTimes', WHERE WHAT IT READS IS OF BULK AT MOST 1048576: true; the input reads as it did. -/
def tempoTimesUptoRow : OpenClaim := { program := "ytgfbmdpjgcibjaa", sum := "394693c357827a97d6cc2256e5ecdc45824769582485bdce80dfc69f237b2539", func := "hemiola/hemiolalaw44.TempoTimes", spec := "tempoTimes", inPlace := ["math/bits.Add64", "math/bits.Sub64"], unfollowed := true, recurses := true, named := ["math/bits.divideError", "math/bits.overflowError"], apart := false, narrowed := true }
def TempoTimesUptoSaid : Prop := tempoTimesUptoRow.holds Try.pinned (OpenSpec.upto tempoTimesSpec)

/-- 'hemiolalaw44.TempoMakes', WHERE WHAT IT READS IS OF BULK AT MOST 1048576: true; the input reads as it did. -/
def tempoMakesUptoRow : OpenClaim := { program := "ytgfbmdpjgcibjaa", sum := "394693c357827a97d6cc2256e5ecdc45824769582485bdce80dfc69f237b2539", func := "hemiola/hemiolalaw44.TempoMakes", spec := "tempoMakes", inPlace := ["math/bits.Add64", "math/bits.Sub64"], unfollowed := true, recurses := true, named := ["math/bits.divideError", "math/bits.overflowError"], apart := false, narrowed := true }
def TempoMakesUptoSaid : Prop := tempoMakesUptoRow.holds Try.pinned (OpenSpec.upto tempoMakesSpec)

/-- 'hemiolalaw44.TempoEquals', WHERE WHAT IT READS IS OF BULK AT MOST 1048576: true; the input reads as it did. -/
def tempoEqualsUptoRow : OpenClaim := { program := "ytgfbmdpjgcibjaa", sum := "394693c357827a97d6cc2256e5ecdc45824769582485bdce80dfc69f237b2539", func := "hemiola/hemiolalaw44.TempoEquals", spec := "tempoEquals", inPlace := ["math/bits.Add64", "math/bits.Sub64"], unfollowed := true, recurses := true, named := ["math/bits.divideError", "math/bits.overflowError"], apart := false, narrowed := true }
def TempoEqualsUptoSaid : Prop := tempoEqualsUptoRow.holds Try.pinned (OpenSpec.upto tempoEqualsSpec)

end Rows
end Go.Proofs.Ytgfbmdpjgcibjaa
