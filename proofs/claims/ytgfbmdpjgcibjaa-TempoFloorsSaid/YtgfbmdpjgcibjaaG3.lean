/- A struct or an array by value whose cells are all integers of one kind. -/
import Derived.Test.YtgfbmdpjgcibjaaFrame
namespace Go.Proofs.Ytgfbmdpjgcibjaa
open Go.ChangeShapes Go.WideShapes Go.ChangeAt Go.RowKit
section
variable {P : Program} {w : World} {r : Reach} {base : Nat} {t ti : TypeId} {k : IntKind}
theorem ints_of_cellsK (hu : P.underlying ti = some (.int k)) : ∀ (cs : List Value), (∀ v ∈ cs, Cell.okWide P w r base ti v) → ∃ xs : List Int, xs.length = cs.length ∧ cs = xs.map (Value.int k) ∧ ∀ x ∈ xs, k.has x
  | [], _ => ⟨[], rfl, rfl, by simp⟩
  | v :: cs, h => by
    obtain ⟨xs, h1, h2, h3⟩ := ints_of_cellsK hu cs fun u hu => h u (by simp [hu])
    have hv := h v (by simp)
    obtain ⟨n, rfl, hn⟩ : ∃ n, v = .int k n ∧ k.has n := by
      simp only [Cell.okWide, hu] at hv
      cases v <;> simp_all [Cell.ok]
    exact ⟨n :: xs, by simp [h1], by simp [h2], by simpa using ⟨hn, h3⟩⟩

/-- A struct or an array by value whose cells are all ints: its cells, as numbers. -/
theorem open_flatK {n : Nat} {u : TypeDesc} (hk : P.underlying t = some u) (hs : (match u with | .struct _ | .array _ _ => true | _ => false) = true) (hts : P.cellTypes P.depth t = some (List.replicate n ti)) (hn : 0 < n) (hC : P.cellsOf t = n)
    (hu : P.underlying ti = some (.int k)) {v : Value} (hv : Value.okWide P w r base t v) :
    ∃ xs : List Int, xs.length = n ∧ v = .agg (xs.map (Value.int k)).toArray ∧ ∀ x ∈ xs, k.has x := by
  have hv : ∃ cs, v = .agg cs ∧ cs.size = P.cellsOf t ∧ Row.okWide P w r base t cs := by
    unfold Value.okWide at hv
    rw [hk] at hv
    cases u <;> simp at hs <;> exact hv
  obtain ⟨⟨cs⟩, rfl, hsz, ts, e1, _, hc⟩ := hv
  rw [hts] at e1
  injection e1 with e1
  subst e1
  obtain ⟨xs, h1, h2, h3⟩ := ints_of_cellsK (w := w) (r := r) (base := base) hu cs (by
    intro v hv
    obtain ⟨i, hi⟩ := List.getElem?_of_mem hv
    obtain ⟨u, hu1, hu2⟩ := hc i v (by simpa using hi)
    have hm : i % n < n := Nat.mod_lt _ hn
    simp [hm] at hu1
    rw [hu1]
    exact hu2)
  refine ⟨xs, ?_, by rw [h2], h3⟩
  simp at hsz
  omega
end
end Go.Proofs.Ytgfbmdpjgcibjaa
