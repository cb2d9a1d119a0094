/- What came in as []Played lies as a list of notes. -/
import Derived.Test.YtmbchdfgckmpoaaGreatDoorB1
namespace Go.Proofs.YtmbchdfgckmpoaaGreatDoor
open Go Go.ChangeShapes Go.WideShapes Go.ChangeAt Go.RowKit

theorem opensY {H : Type} (enc : TypeId × Value → H) : Opens enc Tryz.prog (relFlat encY) 27 := by
  intro w base spare held fuel cs x h
  have hf := fits_of_trod 4 (show flatK Tryz.prog 4 27 = some [true, true, true, true, true, true, true] by kernel_rfl) _ _ _ _ _ _ _ h
  match cs, fits_len hf, hf with
  | [_, _, _, _, _, _, _], _, ⟨⟨a, rfl, _⟩, ⟨b, rfl, _⟩, ⟨c, rfl, _⟩, ⟨d, rfl, _⟩, ⟨e, rfl, _⟩, ⟨f, rfl, _⟩, ⟨g, rfl, _⟩, _⟩ => exact ⟨⟨a, b, c, d, e, f, g⟩, rfl⟩
theorem SlY.of {w : World} {b off : Nat} {l : List Ply} {B : Nat} (hb : b < w.heap.size) (h : ∀ i (h : i < l.length), ∃ c, c.length = 7 ∧ At w b (off + i * 7) c ∧ relFlat encY w B l[i] c) : SlY w (Option.some ⟨b, off, none⟩) l := by
  refine SlY.intro hb fun k hk => ?_
  obtain ⟨c, _, h1, h2⟩ := h k hk
  have e : nth l k = l[k] := by unfold nth; rw [List.getD_eq_getElem?_getD, List.getElem?_eq_getElem hk]; rfl
  rw [e]
  rw [h2] at h1
  exact ⟨h1 0 _ rfl, h1 1 _ rfl, h1 2 _ rfl, h1 3 _ rfl, h1 4 _ rfl, h1 5 _ rfl, h1 6 _ rfl⟩
end Go.Proofs.YtmbchdfgckmpoaaGreatDoor
