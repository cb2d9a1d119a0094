/-
  No cell of these rows narrows 'for every input' (looked for: loops, veiled, ifaces, maps, wideKeys, modest, calm, conditions, laid).
  DERIVED. THE GIVEN ROWS OF THIS SEAT. 3 by the template 'for every input the law returns true; each argument reads behind the call as it read before'; 0 by the template 'total and deterministic' (their statements: YtmbchdfgckmpoaaGreatTotals.lean).
  GIVEN WITH THE SEED: the statements are not yours to turn. If you find one false, say at which input.
  Laid BY PROGRAM, IN A SANDBOX (cutbox-rows.mjs): the forced cells as the released guide's own fill.sh prints them over the translation 78827fee95d67cc0… (all of the seat's roots in one cut). By AI agents, Wed Nov 11 2026. No macro, syntax, notation, axiom, sorry.
-/
import Derived.Test.YtmbchdfgckmpoaaGreatChecked
import GoSem.Claim
import GoSem.ClaimJoined
import GoSem.ClaimMapViews
import Derived.JoinedTies
import Derived.KernelRfl
namespace Go.Proofs.YtmbchdfgckmpoaaGreat
/- THE CELL 'sum', in the pinned program and in every row, IS THE sha256 OF THE DUMP (.gsa) THAT YtmbchdfgckmpoaaGreatProg.lean LOADS. Nothing in Lean hashes anything: it is a label: what it is worth is what the hold of that sum in a sandbox is worth. -/
noncomputable def Tryz.pinned : Pinned := { name := "ytmbchdfgckmpoaagreat", sum := "78827fee95d67cc00d418a8a9008a576949fdf70753e48e181ce2f14c63ca51c", checked := Tryz.checked }
namespace Rows
def none {H : Type} : Left H := { results := [], args := [] }

/-- 'hemiolalaw46.PerformShares': WHATEVER THE INPUT: true; the input reads as it did. -/
def performSharesSpec : ChangeSpec := { name := "performShares", fn := fun _ => fun
  | [d1, d2] => { results := [.lit (.bool true)], args := [d1, d2] }
  | _ => none }
def performSharesRow : OpenClaim := { program := "ytmbchdfgckmpoaagreat", sum := "78827fee95d67cc00d418a8a9008a576949fdf70753e48e181ce2f14c63ca51c", func := "hemiola/hemiolalaw46.PerformShares", spec := "performShares", inPlace := ["math/bits.Add64"], unfollowed := true, recurses := true, named := ["math/bits.divideError", "math/bits.overflowError"], plainKeys := false, apart := false }
def PerformSharesSaid : Prop := performSharesRow.holds Tryz.pinned (OpenSpec.ofChange performSharesSpec)

/-- ITS FALSE NEIGHBOUR: 'it returns false'. Refute it at one input. -/
def performSharesWrong : ChangeSpec := { name := "performShares", fn := fun _ => fun
  | [d1, d2] => { results := [.lit (.bool false)], args := [d1, d2] }
  | _ => none }
def PerformSharesWrongFalsely : Prop := performSharesRow.holds Tryz.pinned (OpenSpec.ofChange performSharesWrong)

/-- 'hemiolalaw46.PerformSorts': WHATEVER THE INPUT: true; the input reads as it did. -/
def performSortsSpec : ChangeSpec := { name := "performSorts", fn := fun _ => fun
  | [d] => { results := [.lit (.bool true)], args := [d] }
  | _ => none }
def performSortsRow : OpenClaim := { program := "ytmbchdfgckmpoaagreat", sum := "78827fee95d67cc00d418a8a9008a576949fdf70753e48e181ce2f14c63ca51c", func := "hemiola/hemiolalaw46.PerformSorts", spec := "performSorts", inPlace := ["math/bits.Add64"], unfollowed := true, recurses := true, named := ["math/bits.divideError", "math/bits.overflowError"], plainKeys := false, apart := false }
def PerformSortsSaid : Prop := performSortsRow.holds Tryz.pinned (OpenSpec.ofChange performSortsSpec)

/-- ITS FALSE NEIGHBOUR: 'it returns false'. Refute it at one input. -/
def performSortsWrong : ChangeSpec := { name := "performSorts", fn := fun _ => fun
  | [d] => { results := [.lit (.bool false)], args := [d] }
  | _ => none }
def PerformSortsWrongFalsely : Prop := performSortsRow.holds Tryz.pinned (OpenSpec.ofChange performSortsWrong)

/-- 'hemiolalaw46.PerformClips': WHATEVER THE INPUT: true; the input reads as it did. -/
def performClipsSpec : ChangeSpec := { name := "performClips", fn := fun _ => fun
  | [d1, d2, d3] => { results := [.lit (.bool true)], args := [d1, d2, d3] }
  | _ => none }
def performClipsRow : OpenClaim := { program := "ytmbchdfgckmpoaagreat", sum := "78827fee95d67cc00d418a8a9008a576949fdf70753e48e181ce2f14c63ca51c", func := "hemiola/hemiolalaw46.PerformClips", spec := "performClips", inPlace := ["math/bits.Add64"], unfollowed := true, recurses := true, named := ["math/bits.divideError", "math/bits.overflowError"], plainKeys := false, apart := false }
def PerformClipsSaid : Prop := performClipsRow.holds Tryz.pinned (OpenSpec.ofChange performClipsSpec)

/-- ITS FALSE NEIGHBOUR: 'it returns false'. Refute it at one input. -/
def performClipsWrong : ChangeSpec := { name := "performClips", fn := fun _ => fun
  | [d1, d2, d3] => { results := [.lit (.bool false)], args := [d1, d2, d3] }
  | _ => none }
def PerformClipsWrongFalsely : Prop := performClipsRow.holds Tryz.pinned (OpenSpec.ofChange performClipsWrong)

/- THE SECOND FORM. 'bulk': how many values and letters a reading holds, each counted each time it is reached (what is shared counts as often as it is met; a slice's spare places count too). A statement '..UptoSaid' is the law's where the arguments, and the package variables that the reading takes, are together of bulk at most 1048576: NARROWER than '..Said'. Prove '..Said' where nothing that the law and all that it calls make is longer than what came in: it says more and counts as full. Else prove '..UptoSaid'. A law counts once. -/
mutual
def uptoBulk {H : Type} : DataW H → Nat
  | .lit (.string bytes) => bytes.length + 1
  | .lit _ => 1
  | .nil => 1
  | .ptr d => uptoBulk d + 1
  | .slice elems spare => uptoBulkAll elems + uptoBulkAll spare + 1
  | .agg parts => uptoBulkAll parts + 1
  | .iface _ d => uptoBulk d + 1
  | .map entries => uptoBulkEntries entries + 1
  | .held _ => 1
def uptoBulkAll {H : Type} : List (DataW H) → Nat
  | [] => 0
  | d :: r => uptoBulk d + uptoBulkAll r
def uptoBulkEntries {H : Type} : List (Lit × DataW H) → Nat
  | [] => 0
  | x :: r => uptoBulkEntry x + uptoBulkEntries r
def uptoBulkEntry {H : Type} : Lit × DataW H → Nat
  | (.string bytes, d) => bytes.length + uptoBulk d + 1
  | (_, d) => uptoBulk d + 1
 end
def uptoSmall : (H : Type) → List (DataW H) → Bool := fun _ ds => decide (uptoBulkAll ds ≤ 1048576)
def OpenSpec.upto (s : _root_.Go.ChangeSpec) : _root_.Go.OpenSpec := { _root_.Go.OpenSpec.ofChange s with cond := some uptoSmall }

/-- 'hemiolalaw46.PerformShares', WHERE WHAT IT READS IS OF BULK AT MOST 1048576: true; the input reads as it did. -/
def performSharesUptoRow : OpenClaim := { program := "ytmbchdfgckmpoaagreat", sum := "78827fee95d67cc00d418a8a9008a576949fdf70753e48e181ce2f14c63ca51c", func := "hemiola/hemiolalaw46.PerformShares", spec := "performShares", inPlace := ["math/bits.Add64"], unfollowed := true, recurses := true, named := ["math/bits.divideError", "math/bits.overflowError"], plainKeys := false, apart := false, narrowed := true }
def PerformSharesUptoSaid : Prop := performSharesUptoRow.holds Tryz.pinned (OpenSpec.upto performSharesSpec)

/-- 'hemiolalaw46.PerformSorts', WHERE WHAT IT READS IS OF BULK AT MOST 1048576: true; the input reads as it did. -/
def performSortsUptoRow : OpenClaim := { program := "ytmbchdfgckmpoaagreat", sum := "78827fee95d67cc00d418a8a9008a576949fdf70753e48e181ce2f14c63ca51c", func := "hemiola/hemiolalaw46.PerformSorts", spec := "performSorts", inPlace := ["math/bits.Add64"], unfollowed := true, recurses := true, named := ["math/bits.divideError", "math/bits.overflowError"], plainKeys := false, apart := false, narrowed := true }
def PerformSortsUptoSaid : Prop := performSortsUptoRow.holds Tryz.pinned (OpenSpec.upto performSortsSpec)

/-- 'hemiolalaw46.PerformClips', WHERE WHAT IT READS IS OF BULK AT MOST 1048576: true; the input reads as it did. -/
def performClipsUptoRow : OpenClaim := { program := "ytmbchdfgckmpoaagreat", sum := "78827fee95d67cc00d418a8a9008a576949fdf70753e48e181ce2f14c63ca51c", func := "hemiola/hemiolalaw46.PerformClips", spec := "performClips", inPlace := ["math/bits.Add64"], unfollowed := true, recurses := true, named := ["math/bits.divideError", "math/bits.overflowError"], plainKeys := false, apart := false, narrowed := true }
def PerformClipsUptoSaid : Prop := performClipsUptoRow.holds Tryz.pinned (OpenSpec.upto performClipsSpec)

end Rows
end Go.Proofs.YtmbchdfgckmpoaaGreat
