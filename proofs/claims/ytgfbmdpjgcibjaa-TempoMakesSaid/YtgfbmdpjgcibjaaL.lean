/-
  DERIVED: THE SHELF's CONTRACTS AT THIS DUMP, IN PLAIN WORDS (tools/lay-plain.mjs out of 'TryLtmp.lean', which tools/lay-shelf.mjs wrote): THE SAME DECLARATIONS UNDER THE SAME NAMES: 'import', 'namespace', 'open', 'def', 'theorem' AND NOTHING ELSE: no command of the shelf's: FOR A HAND-IN. Each laying: the table of numbers ('.._ren') and one theorem, a field a fact of the dump's own or the kernel's comparison; each contract: ONE APPLICATION.
-/
import Derived.Shelf.SlicesE.Clone
import Derived.Shelf.SlicesE.Equal
import Derived.Shelf.SlSorted.Search
import Derived.Test.YtgfbmdpjgcibjaaProg
namespace Go.Proofs
open Go.Shelf
def Try.laysClone_ren : Go.Shelf.Ren := ⟨fun | 41 => 44 | n => n, fun | 22 => 29 | 23 => 38 | 4 => 4 | n => n, fun | n => n⟩
theorem Try.laysClone : Go.Proofs.SlLaysE0.n41 Try.prog Try.laysClone_ren := {
  mixed := by kernel_rfl
  f41 := ⟨Try.f44.name, by decide, Try.func44.trans (congrArg some (by kernel_rfl))⟩
  t4 := Try.underlying4
  a4 := Try.isAgg4
  z4 := Try.sizeOf4
  v4 := Try.zeroValue4
  t22 := Try.underlying29
  a22 := Try.isAgg29
  z22 := Try.sizeOf29
  v22 := Try.zeroValue29 }
def Try.laysSearch_ren : Go.Shelf.Ren := ⟨fun | 16 => 40 | n => n, fun | 3 => 3 | 35 => 50 | 4 => 4 | 38 => 67 | n => n, fun | n => n⟩
theorem Try.laysSearch : Go.Proofs.SlLaysO.n16 Try.prog Try.laysSearch_ren := {
  mixed := by kernel_rfl
  f16 := Try.func40.trans (congrArg some (by kernel_rfl))
  t3 := Try.underlying3
  a3 := Try.isAgg3
  z3 := Try.sizeOf3
  v3 := Try.zeroValue3
  t4 := Try.underlying4
  a4 := Try.isAgg4
  z4 := Try.sizeOf4
  v4 := Try.zeroValue4
  t35 := Try.underlying50
  a35 := Try.isAgg50
  z35 := Try.sizeOf50
  v35 := Try.zeroValue50
  t38 := Try.underlying67
  a38 := Try.isAgg67
  z38 := Try.sizeOf67
  v38 := Try.zeroValue67 }
end Go.Proofs
