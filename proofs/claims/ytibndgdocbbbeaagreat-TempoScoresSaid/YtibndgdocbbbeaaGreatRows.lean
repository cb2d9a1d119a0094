/-
  No cell of these rows narrows 'for every input' (looked for: loops, veiled, ifaces, maps, wideKeys, modest, calm, conditions, laid).
  DERIVED. THE GIVEN ROWS OF THIS SEAT. 4 by the template 'for every input the law returns true; each argument reads behind the call as it read before'; 0 by the template 'total and deterministic' (their statements: YtibndgdocbbbeaaGreatTotals.lean).
  GIVEN WITH THE SEED: the statements are not yours to turn. If you find one false, say at which input.
  Laid BY PROGRAM, IN A SANDBOX (cutbox-rows.mjs): the forced cells as the released guide's own fill.sh prints them over the translation 08b366c8ac2f67d1… (all of the seat's roots in one cut). By AI agents, Wed Nov 11 2026. No macro, syntax, notation, axiom, sorry.
-/
import Derived.Test.YtibndgdocbbbeaaGreatChecked
import GoSem.Claim
import GoSem.ClaimJoined
import GoSem.ClaimMapViews
import Derived.JoinedTies
import Derived.KernelRfl
namespace Go.Proofs.YtibndgdocbbbeaaGreat
/- THE CELL 'sum', in the pinned program and in every row, IS THE sha256 OF THE DUMP (.gsa) THAT YtibndgdocbbbeaaGreatProg.lean LOADS. Nothing in Lean hashes anything: it is a label: what it is worth is what the hold of that sum in a sandbox is worth. -/
noncomputable def Tryz.pinned : Pinned := { name := "ytibndgdocbbbeaagreat", sum := "08b366c8ac2f67d1f77bf066327742a9382ca3df74f1dc79e703cf1fb5c3ee40", checked := Tryz.checked }
namespace Rows
def none {H : Type} : Left H := { results := [], args := [] }

/-- 'hemiolalaw45.OrnamentRule': WHATEVER THE INPUT: true; the input reads as it did. -/
def ornamentRuleSpec : ChangeSpec := { name := "ornamentRule", fn := fun _ => fun
  | [d] => { results := [.lit (.bool true)], args := [d] }
  | _ => none }
def ornamentRuleRow : OpenClaim := { program := "ytibndgdocbbbeaagreat", sum := "08b366c8ac2f67d1f77bf066327742a9382ca3df74f1dc79e703cf1fb5c3ee40", func := "hemiola/hemiolalaw45.OrnamentRule", spec := "ornamentRule", unfollowed := true, recurses := true, plainKeys := false, apart := false }
def OrnamentRuleSaid : Prop := ornamentRuleRow.holds Tryz.pinned (OpenSpec.ofChange ornamentRuleSpec)

/-- ITS FALSE NEIGHBOUR: 'it returns false'. Refute it at one input. -/
def ornamentRuleWrong : ChangeSpec := { name := "ornamentRule", fn := fun _ => fun
  | [d] => { results := [.lit (.bool false)], args := [d] }
  | _ => none }
def OrnamentRuleWrongFalsely : Prop := ornamentRuleRow.holds Tryz.pinned (OpenSpec.ofChange ornamentRuleWrong)

/-- 'hemiolalaw44.TempoWritten': WHATEVER THE INPUT: true; the input reads as it did. -/
def tempoWrittenSpec : ChangeSpec := { name := "tempoWritten", fn := fun _ => fun
  | [d1, d2, d3] => { results := [.lit (.bool true)], args := [d1, d2, d3] }
  | _ => none }
def tempoWrittenRow : OpenClaim := { program := "ytibndgdocbbbeaagreat", sum := "08b366c8ac2f67d1f77bf066327742a9382ca3df74f1dc79e703cf1fb5c3ee40", func := "hemiola/hemiolalaw44.TempoWritten", spec := "tempoWritten", inPlace := ["math/bits.Add64"], unfollowed := true, recurses := true, named := ["math/bits.divideError", "math/bits.overflowError"], plainKeys := false, apart := false }
def TempoWrittenSaid : Prop := tempoWrittenRow.holds Tryz.pinned (OpenSpec.ofChange tempoWrittenSpec)

/-- ITS FALSE NEIGHBOUR: 'it returns false'. Refute it at one input. -/
def tempoWrittenWrong : ChangeSpec := { name := "tempoWritten", fn := fun _ => fun
  | [d1, d2, d3] => { results := [.lit (.bool false)], args := [d1, d2, d3] }
  | _ => none }
def TempoWrittenWrongFalsely : Prop := tempoWrittenRow.holds Tryz.pinned (OpenSpec.ofChange tempoWrittenWrong)

/-- 'hemiolalaw44.TempoScores': WHATEVER THE INPUT: true; the input reads as it did. -/
def tempoScoresSpec : ChangeSpec := { name := "tempoScores", fn := fun _ => fun
  | [d1, d2, d3] => { results := [.lit (.bool true)], args := [d1, d2, d3] }
  | _ => none }
def tempoScoresRow : OpenClaim := { program := "ytibndgdocbbbeaagreat", sum := "08b366c8ac2f67d1f77bf066327742a9382ca3df74f1dc79e703cf1fb5c3ee40", func := "hemiola/hemiolalaw44.TempoScores", spec := "tempoScores", inPlace := ["math/bits.Add64", "math/bits.Sub64"], unfollowed := true, recurses := true, named := ["math/bits.divideError", "math/bits.overflowError"], plainKeys := false, apart := false }
def TempoScoresSaid : Prop := tempoScoresRow.holds Tryz.pinned (OpenSpec.ofChange tempoScoresSpec)

/-- ITS FALSE NEIGHBOUR: 'it returns false'. Refute it at one input. -/
def tempoScoresWrong : ChangeSpec := { name := "tempoScores", fn := fun _ => fun
  | [d1, d2, d3] => { results := [.lit (.bool false)], args := [d1, d2, d3] }
  | _ => none }
def TempoScoresWrongFalsely : Prop := tempoScoresRow.holds Tryz.pinned (OpenSpec.ofChange tempoScoresWrong)

/-- 'hemiolalaw46.PerformRules': WHATEVER THE INPUT: true; the input reads as it did. -/
def performRulesSpec : ChangeSpec := { name := "performRules", fn := fun _ => fun
  | [d1, d2] => { results := [.lit (.bool true)], args := [d1, d2] }
  | _ => none }
def performRulesRow : OpenClaim := { program := "ytibndgdocbbbeaagreat", sum := "08b366c8ac2f67d1f77bf066327742a9382ca3df74f1dc79e703cf1fb5c3ee40", func := "hemiola/hemiolalaw46.PerformRules", spec := "performRules", inPlace := ["math/bits.Add64"], unfollowed := true, recurses := true, named := ["math/bits.divideError", "math/bits.overflowError"], plainKeys := false, apart := false }
def PerformRulesSaid : Prop := performRulesRow.holds Tryz.pinned (OpenSpec.ofChange performRulesSpec)

/-- ITS FALSE NEIGHBOUR: 'it returns false'. Refute it at one input. -/
def performRulesWrong : ChangeSpec := { name := "performRules", fn := fun _ => fun
  | [d1, d2] => { results := [.lit (.bool false)], args := [d1, d2] }
  | _ => none }
def PerformRulesWrongFalsely : Prop := performRulesRow.holds Tryz.pinned (OpenSpec.ofChange performRulesWrong)

/- THE SECOND FORM. 'bulk': how many values and letters a reading holds, each counted each time it is reached (what is shared counts as often as it is met; a slice's spare places count too). A statement '..UptoSaid' is the law's where the arguments, and the package variables that the reading takes, are together of bulk at most 1048576: NARROWER than '..Said'. Prove '..Said' where nothing that the law and all that it calls make is longer than what came in: it says more and counts as full. Else prove '..UptoSaid'. A law counts once. -/
mutual
def uptoBulk {H : Type} : DataW H → Nat
  | .lit (.string bytes) => bytes.length + 1
  | .lit _ => 1
  | .nil => 1
  | .ptr d => uptoBulk d + 1
  | .slice elems spare => uptoBulkAll elems + uptoBulkAll spare + 1
  | .agg parts => uptoBulkAll parts + 1
  | .iface _ d => uptoBulk d + 1
  | .map entries => uptoBulkEntries entries + 1
  | .held _ => 1
def uptoBulkAll {H : Type} : List (DataW H) → Nat
  | [] => 0
  | d :: r => uptoBulk d + uptoBulkAll r
def uptoBulkEntries {H : Type} : List (Lit × DataW H) → Nat
  | [] => 0
  | x :: r => uptoBulkEntry x + uptoBulkEntries r
def uptoBulkEntry {H : Type} : Lit × DataW H → Nat
  | (.string bytes, d) => bytes.length + uptoBulk d + 1
  | (_, d) => uptoBulk d + 1
 end
def uptoSmall : (H : Type) → List (DataW H) → Bool := fun _ ds => decide (uptoBulkAll ds ≤ 1048576)
def OpenSpec.upto (s : _root_.Go.ChangeSpec) : _root_.Go.OpenSpec := { _root_.Go.OpenSpec.ofChange s with cond := some uptoSmall }

/-- 'hemiolalaw45.OrnamentRule', WHERE WHAT IT READS IS OF BULK AT MOST 1048576: true; the input reads as it did. -/
def ornamentRuleUptoRow : OpenClaim := { program := "ytibndgdocbbbeaagreat", sum := "08b366c8ac2f67d1f77bf066327742a9382ca3df74f1dc79e703cf1fb5c3ee40", func := "hemiola/hemiolalaw45.OrnamentRule", spec := "ornamentRule", unfollowed := true, recurses := true, plainKeys := false, apart := false, narrowed := true }
def OrnamentRuleUptoSaid : Prop := ornamentRuleUptoRow.holds Tryz.pinned (OpenSpec.upto ornamentRuleSpec)

/-- 'hemiolalaw44.TempoWritten', WHERE WHAT IT READS IS OF BULK AT MOST 1048576: true; the input reads as it did. -/
def tempoWrittenUptoRow : OpenClaim := { program := "ytibndgdocbbbeaagreat", sum := "08b366c8ac2f67d1f77bf066327742a9382ca3df74f1dc79e703cf1fb5c3ee40", func := "hemiola/hemiolalaw44.TempoWritten", spec := "tempoWritten", inPlace := ["math/bits.Add64"], unfollowed := true, recurses := true, named := ["math/bits.divideError", "math/bits.overflowError"], plainKeys := false, apart := false, narrowed := true }
def TempoWrittenUptoSaid : Prop := tempoWrittenUptoRow.holds Tryz.pinned (OpenSpec.upto tempoWrittenSpec)

/-- 'hemiolalaw44.TempoScores', WHERE WHAT IT READS IS OF BULK AT MOST 1048576: true; the input reads as it did. -/
def tempoScoresUptoRow : OpenClaim := { program := "ytibndgdocbbbeaagreat", sum := "08b366c8ac2f67d1f77bf066327742a9382ca3df74f1dc79e703cf1fb5c3ee40", func := "hemiola/hemiolalaw44.TempoScores", spec := "tempoScores", inPlace := ["math/bits.Add64", "math/bits.Sub64"], unfollowed := true, recurses := true, named := ["math/bits.divideError", "math/bits.overflowError"], plainKeys := false, apart := false, narrowed := true }
def TempoScoresUptoSaid : Prop := tempoScoresUptoRow.holds Tryz.pinned (OpenSpec.upto tempoScoresSpec)

/-- 'hemiolalaw46.PerformRules', WHERE WHAT IT READS IS OF BULK AT MOST 1048576: true; the input reads as it did. -/
def performRulesUptoRow : OpenClaim := { program := "ytibndgdocbbbeaagreat", sum := "08b366c8ac2f67d1f77bf066327742a9382ca3df74f1dc79e703cf1fb5c3ee40", func := "hemiola/hemiolalaw46.PerformRules", spec := "performRules", inPlace := ["math/bits.Add64"], unfollowed := true, recurses := true, named := ["math/bits.divideError", "math/bits.overflowError"], plainKeys := false, apart := false, narrowed := true }
def PerformRulesUptoSaid : Prop := performRulesUptoRow.holds Tryz.pinned (OpenSpec.upto performRulesSpec)

end Rows
end Go.Proofs.YtibndgdocbbbeaaGreat
