/- What came in as []Played lies as a list of notes. -/
import Derived.Test.YtmbchdfgckmpoaaGreatB1
namespace Go.Proofs.YtmbchdfgckmpoaaGreat
open Go Go.ChangeShapes Go.WideShapes Go.ChangeAt Go.RowKit

theorem slice_ok {P : Program} {w : World} {r : Reach} {base : Nat} {t e : TypeId} {v : Value} (ht : P.underlying t = some (.slice e)) (h : Value.okWide P w r base t v) : ∃ A n c, v = .slice A n c ∧ n ≤ c ∧ (c : Int) ≤ IntKind.i64.max ∧ (A = none → c = 0) := by
  obtain ⟨A, n, c, rfl⟩ := okWide_slice ht h
  have h : Cell.ok P w r base t (.slice A n c) := by
    unfold Value.okWide at h
    rw [ht] at h
    unfold Cell.okWide at h
    simpa [ht] using h
  refine ⟨A, n, c, rfl, ?_⟩
  unfold Cell.ok at h
  rw [ht] at h
  cases A with
  | none =>
    match n, c, h with
    | 0, 0, _ => exact ⟨Nat.le_refl _, by decide, fun _ => rfl⟩
    | 0, _ + 1, h => exact h.elim
    | _ + 1, _, h => exact h.elim
  | some a =>
    obtain ⟨h1, h2, _⟩ := h
    exact ⟨h1, h2, fun e => by cases e⟩
theorem string_ok {P : Program} {w : World} {r : Reach} {base : Nat} {t : TypeId} {v : Value} (ht : P.underlying t = some .string) (h : Value.okWide P w r base t v) : ∃ S, v = .string S := by
  unfold Value.okWide at h
  rw [ht] at h
  simp only [Cell.okWide, ht] at h
  cases v <;> simp_all [Cell.ok]
theorem i64max : IntKind.i64.max = 9223372036854775807 := by decide
theorem opensY {H : Type} (enc : TypeId × Value → H) : Opens enc Tryz.prog (relFlat encY) 30 := by
  intro w base spare held fuel cs x h
  have hf := fits_of_trod 4 (show flatK Tryz.prog 4 30 = some [true, true, true, true, true, true, true] by kernel_rfl) _ _ _ _ _ _ _ h
  match cs, fits_len hf, hf with
  | [_, _, _, _, _, _, _], _, ⟨⟨a, rfl, _⟩, ⟨b, rfl, _⟩, ⟨c, rfl, _⟩, ⟨d, rfl, _⟩, ⟨e, rfl, _⟩, ⟨f, rfl, _⟩, ⟨g, rfl, _⟩, _⟩ => exact ⟨⟨a, b, c, d, e, f, g⟩, rfl⟩
theorem SlY.of {w : World} {b off : Nat} {l : List Ply} {B : Nat} (hb : b < w.heap.size) (h : ∀ i (h : i < l.length), ∃ c, c.length = 7 ∧ At w b (off + i * 7) c ∧ relFlat encY w B l[i] c) : SlY w (Option.some ⟨b, off, none⟩) l := by
  refine SlY.intro hb fun k hk => ?_
  obtain ⟨c, _, h1, h2⟩ := h k hk
  have e : nth l k = l[k] := by unfold nth; rw [List.getD_eq_getElem?_getD, List.getElem?_eq_getElem hk]; rfl
  rw [e]
  rw [h2] at h1
  exact ⟨h1 0 _ rfl, h1 1 _ rfl, h1 2 _ rfl, h1 3 _ rfl, h1 4 _ rfl, h1 5 _ rfl, h1 6 _ rfl⟩
end Go.Proofs.YtmbchdfgckmpoaaGreat
