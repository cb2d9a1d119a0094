/- The names of the rules; where a name is in the list. -/
import Derived.Test.YtfhijafkpenogaaGreatDoorProg
import Derived.WalkKit
import Derived.WalkSpells
import Derived.WalkLawsBesides
import Derived.Handy
import Derived.Lib.Hide
import Derived.Deep.DeepCutAuto
import Derived.Deep.CutBlock
import Derived.Deep.AppendLies
import Derived.Deep.RegionHeld3
import Derived.RegionTactic
import Derived.ChangeAlike
import Derived.Deep.QuietTactic
import Derived.BigQuiet
import Derived.Laws.IdiomStrings
import Derived.Lib.ItoaNum
import Derived.Lib.ItoaLen
import Derived.IntWalk
namespace Go.Proofs.YtfhijafkpenogaaGreatDoor
open Go.RowKit

theorem bcell {W w1 : World} (hb : Below W.heap.size W w1) : (∀ b o, b < W.heap.size → w1.cell? ⟨b, o, none⟩ = W.cell? ⟨b, o, none⟩) ∧ (∀ b o, b < W.heap.size → w1.frozen? ⟨b, o, none⟩ = W.frozen? ⟨b, o, none⟩) :=
  ⟨fun b o h => hb.cell (p := ⟨b, o, none⟩) h, fun b o h => hb.frozen (p := ⟨b, o, none⟩) h⟩
abbrev bs (l : List UInt8) : ByteArray := ⟨l.toArray⟩
theorem bs_size (l : List UInt8) : (bs l).size = l.length := by show l.toArray.size = _; simp
theorem bs_append (a b : List UInt8) : bs a ++ bs b = bs (a ++ b) := ByteArray.mk_append_mk _ _

def nmL : List (List UInt8) := [
  [108, 105, 109, 105, 116, 115],
  [105, 100, 115],
  [115, 116, 114, 117, 99, 116, 117, 114, 101],
  [99, 108, 101, 102, 115],
  [109, 101, 116, 114, 101, 115],
  [118, 111, 105, 99, 101, 115],
  [116, 117, 112, 108, 101, 116, 115],
  [101, 118, 101, 110, 116, 115],
  [112, 105, 116, 99, 104, 101, 115],
  [116, 105, 101, 115],
  [108, 121, 114, 105, 99, 115],
  [101, 110, 100, 115],
  [110, 101, 115, 116, 105, 110, 103],
  [114, 101, 112, 101, 97, 116, 115],
  [106, 117, 109, 112, 115],
  [116, 101, 109, 112, 105],
  [109, 97, 114, 103, 105, 110, 115]]
def nm (k : Nat) : List UInt8 := nmL.getD k []
theorem nm_inj : ∀ i, i < 17 → ∀ j, j < 17 → nm i = nm j → i = j := by decide
/-- Where a text is in the list: its index, or -1. -/
def ixF (s : List UInt8) : Int := match (List.range 17).find? fun k => nm k == s with | some k => k | none => -1
theorem ixF_miss {s : List UInt8} (h : ∀ k, k < 17 → nm k ≠ s) : ixF s = -1 := by
  have : (List.range 17).find? (fun k => nm k == s) = none := by
    rw [List.find?_eq_none]
    intro k hk
    simpa using h k (by simpa using hk)
  unfold ixF
  rw [this]
theorem ixF_hit {s : List UInt8} {k : Nat} (hk : k < 17) (h : nm k = s) : ixF s = k := by
  unfold ixF
  cases hf : (List.range 17).find? (fun k => nm k == s) with
  | none =>
    rw [List.find?_eq_none] at hf
    exact absurd (by simpa using h) (hf k (by simpa using hk))
  | some j =>
    have h1 := List.find?_some hf
    have h2 := List.mem_of_find?_eq_some hf
    have := nm_inj j (by simpa using h2) k hk (by rw [h]; simpa using h1)
    rw [this]

/-- From an offset of a block on lie the names. -/
def RdN (w : World) (b off : Nat) : Prop := ∀ k, k < 17 → w.cell? ⟨b, off + k, none⟩ = some (.string (bs (nm k)))
theorem RdN.below {w w' : World} {B b off : Nat} (h : RdN w b off) (hb : Below B w w') (hB : b < B) : RdN w' b off := fun k hk => (hb.cell (p := ⟨b, _, none⟩) hB).trans (h k hk)

set_option maxHeartbeats 1000000 in
theorem namesC (w : World) : Calls Tryz.prog 13 #[] w fun e w' => e = .returned (.slice (some ⟨w.heap.size, 0, none⟩) 17 17) ∧ Below w.heap.size w w' ∧ w.heap.size < w'.heap.size ∧ RdN w' w.heap.size 0 := by
  go_enter Tryz.func13, Tryz.ntmps13
  go_wp2_with fail
  go_ret
  refine ⟨rfl, (Below.refl _ w).alloc (Nat.le_refl _) _, by simp, fun k hk => ?_⟩
  simp only [Nat.zero_add]
  match k, hk with
  | 0, _ => simp [go_sem, nm, nmL]
  | 1, _ => simp [go_sem, nm, nmL]
  | 2, _ => simp [go_sem, nm, nmL]
  | 3, _ => simp [go_sem, nm, nmL]
  | 4, _ => simp [go_sem, nm, nmL]
  | 5, _ => simp [go_sem, nm, nmL]
  | 6, _ => simp [go_sem, nm, nmL]
  | 7, _ => simp [go_sem, nm, nmL]
  | 8, _ => simp [go_sem, nm, nmL]
  | 9, _ => simp [go_sem, nm, nmL]
  | 10, _ => simp [go_sem, nm, nmL]
  | 11, _ => simp [go_sem, nm, nmL]
  | 12, _ => simp [go_sem, nm, nmL]
  | 13, _ => simp [go_sem, nm, nmL]
  | 14, _ => simp [go_sem, nm, nmL]
  | 15, _ => simp [go_sem, nm, nmL]
  | 16, _ => simp [go_sem, nm, nmL]
  | k + 17, hk => omega

set_option maxHeartbeats 2000000 in
theorem indexC (b off : Nat) (s : ByteArray) (w : World) (hb : b < w.heap.size) (h : RdN w b off) :
    Calls Tryz.prog 12 #[.slice (some ⟨b, off, none⟩) 17 17, .string s] w fun r w' => r = .returned (.int .i64 (ixF s.toList)) ∧ Below w.heap.size w w' := by
  go_enter Tryz.func12, Tryz.ntmps12
  go_wp2_with fail
  go_loopw [8] (fun i wr => ∃ k : Nat, k ≤ 17 ∧ i = .int .i64 k ∧ Aside (∀ j, j < k → nm j ≠ s.toList) ∧ Below w.heap.size w wr) (fun i _ => 17 - (intOf i).toNat)
  case atStart => exact ⟨0, by omega, rfl, (show Aside _ from fun j hj => absurd hj (Nat.not_lt_zero _)), Below.refl _ w⟩
  case round =>
    obtain ⟨k, hk, rfl, hA, hB⟩ := hrel
    by_cases hlt : k < 17
    · have r0 := h.below hB hb k hlt
      by_cases he : nm k = s.toList
      · have hR : Aside (ixF s.toList = k) := (show Aside _ from ixF_hit hlt he)
        have e1 : (s.toList == (bs (nm k)).toList) = true := by
          rw [← he]; simp
        generalize bs (nm k) = z at *
        clear he hA
        go_wp2_with fail
        go_ret
        exact ⟨by rw [hR.out]; rfl, hB⟩
      · have hA2 : Aside (∀ j, j < k + 1 → nm j ≠ s.toList) := (show Aside _ from fun j hj => by
          by_cases hjk : j = k
          · subst hjk; exact he
          · exact hA.out j (by omega))
        have e1 : (s.toList == (bs (nm k)).toList) = false := by
          simpa using fun e => he e.symm
        generalize bs (nm k) = z at *
        clear he hA
        go_wp2_with fail
        go_roundw
        case rel => exact ⟨k + 1, by omega, by go_num, hA2, hB⟩
        case measure => simp [intOf]; omega
    · obtain rfl : k = 17 := by omega
      go_wp2_with fail
      go_ret
      exact ⟨by rw [ixF_miss (fun j hj => hA.out j (by omega))]; rfl, hB⟩
end Go.Proofs.YtfhijafkpenogaaGreatDoor
