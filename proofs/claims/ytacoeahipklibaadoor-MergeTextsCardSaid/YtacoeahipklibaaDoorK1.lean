/- known. -/
import Derived.Test.YtacoeahipklibaaDoorB10
import Derived.Test.YtacoeahipklibaaDoorT1
namespace Go.Proofs.YtacoeahipklibaaDoor
open Go.RowKit

abbrev i1 : Id := ⟨0, 1, by decide, by decide⟩
abbrev i2 : Id := ⟨0, 2, by decide, by decide⟩
abbrev i3 : Id := ⟨0, 3, by decide, by decide⟩
abbrev i4 : Id := ⟨0, 4, by decide, by decide⟩
abbrev i5 : Id := ⟨0, 5, by decide, by decide⟩
theorem knownSeq : seqF [i1, i2, i3] [i1, i4, i2, i3] [i1, i2, i5] = [i1, i4, i2, i5] := by decide

theorem RdI.of_row {w : World} {b : Nat} {l : List Id} {t : TypeId} {fz : Nat × Nat} (h : w.heap[b]? = some (.cells (cellsI l).toArray t fz)) : RdI w b 0 l := by
  intro k hk
  rw [cell_of_row w b _ _ t fz h, cell_of_row w b _ _ t fz h]
  have h0 := cellsI_get l k 0 hk (by omega)
  have h1 := cellsI_get l k 1 hk (by omega)
  rw [Nat.zero_add]
  exact ⟨by simpa [encId] using h0, by simpa [encId] using h1⟩

def KS (w' : World) (n g off : Nat) : Prop := w'.cell? ⟨n, 0, none⟩ = some (.int .i64 0) ∧ w'.cell? ⟨n, 1, none⟩ = some (.int .i64 1) ∧ w'.cell? ⟨n + 1 + 1 + 1, 0, none⟩ = some (.int .i64 0) ∧ w'.cell? ⟨n + 1 + 1 + 1, 1, none⟩ = some (.int .i64 4) ∧ w'.cell? ⟨n + 1, 0, none⟩ = some (.int .i64 0) ∧ w'.cell? ⟨n + 1, 1, none⟩ = some (.int .i64 2) ∧ w'.cell? ⟨n + 1 + 1 + 1 + 1, 0, none⟩ = some (.int .i64 0) ∧ w'.cell? ⟨n + 1 + 1 + 1 + 1, 1, none⟩ = some (.int .i64 5) ∧ w'.cell? ⟨g, off, none⟩ = some (.int .i64 0) ∧ w'.cell? ⟨g, off + 1, none⟩ = some (.int .i64 1) ∧ w'.cell? ⟨g, off + 2, none⟩ = some (.int .i64 0) ∧ w'.cell? ⟨g, off + 3, none⟩ = some (.int .i64 4) ∧ w'.cell? ⟨g, off + 4, none⟩ = some (.int .i64 0) ∧ w'.cell? ⟨g, off + 5, none⟩ = some (.int .i64 2) ∧ w'.cell? ⟨g, off + 6, none⟩ = some (.int .i64 0) ∧ w'.cell? ⟨g, off + 7, none⟩ = some (.int .i64 5)
theorem keepK {a w'' : World} {n g off : Nat} (h : Below a.heap.size a w'') (hn : n + 1 + 1 + 1 + 1 < a.heap.size) (hg : g < a.heap.size) (hs : KS a n g off) : KS w'' n g off := by
  obtain ⟨c0, c1, c2, c3, c4, c5, c6, c7, c8, c9, c10, c11, c12, c13, c14, c15⟩ := hs
  have h0 : n < a.heap.size := by omega
  have h1 : n + 1 < a.heap.size := by omega
  have h3 : n + 1 + 1 + 1 < a.heap.size := by omega
  exact ⟨(h.cell (p := ⟨n, 0, none⟩) h0).trans c0, (h.cell (p := ⟨n, 1, none⟩) h0).trans c1, (h.cell (p := ⟨n + 1 + 1 + 1, 0, none⟩) h3).trans c2, (h.cell (p := ⟨n + 1 + 1 + 1, 1, none⟩) h3).trans c3, (h.cell (p := ⟨n + 1, 0, none⟩) h1).trans c4, (h.cell (p := ⟨n + 1, 1, none⟩) h1).trans c5, (h.cell (p := ⟨n + 1 + 1 + 1 + 1, 0, none⟩) hn).trans c6, (h.cell (p := ⟨n + 1 + 1 + 1 + 1, 1, none⟩) hn).trans c7, (h.cell (p := ⟨g, off, none⟩) hg).trans c8, (h.cell (p := ⟨g, off + 1, none⟩) hg).trans c9, (h.cell (p := ⟨g, off + 2, none⟩) hg).trans c10, (h.cell (p := ⟨g, off + 3, none⟩) hg).trans c11, (h.cell (p := ⟨g, off + 4, none⟩) hg).trans c12, (h.cell (p := ⟨g, off + 5, none⟩) hg).trans c13, (h.cell (p := ⟨g, off + 6, none⟩) hg).trans c14, (h.cell (p := ⟨g, off + 7, none⟩) hg).trans c15⟩

theorem heap_old (w : World) (o : Obj) {k : Nat} {v : Obj} (h : w.heap[k]? = some v) : (w.alloc o).heap[k]? = some v :=
  ((World.grownBy_alloc w o none).block k (Array.getElem?_eq_some_iff.1 h).1 (by simp)).trans h
theorem heap_new (w : World) (o : Obj) {k : Nat} (h : k = w.heap.size) : (w.alloc o).heap[k]? = some o := by rw [h]; exact heap_alloc_new w o

set_option maxHeartbeats 4000000 in
set_option maxRecDepth 100000 in
theorem known (w : World) : Calls Tryd.prog 6 #[] w fun r w' => r = .returned (.bool true) ∧ Below w.heap.size w w' := by
  have hS := fun A B C w h1 h2 h3 => sequenceP A B C 3 4 3 [i1, i2, i3] [i1, i4, i2, i3] [i1, i2, i5] w (by decide) (by decide) (by decide) h1 h2 h3
  rw [knownSeq] at hS
  go_enter Tryd.func6, Tryd.ntmps6
  go_wp2_with fail
  refine (hS _ _ _ _ ?_ ?_ ?_).mono ?_
  · exact .inr ⟨by decide, _, _, rfl, by simp, RdI.of_row (t := 30) (fz := (0, 0)) (heap_old _ _ (heap_old _ _ (heap_new _ _ (by simp))))⟩
  · exact .inr ⟨by decide, _, _, rfl, by simp, RdI.of_row (t := 30) (fz := (0, 0)) (heap_old _ _ (heap_new _ _ (by simp)))⟩
  · exact .inr ⟨by decide, _, _, rfl, by simp, RdI.of_row (t := 30) (fz := (0, 0)) (heap_new _ _ (by simp))⟩
  rintro e w9 ⟨⟨A, cap, rfl, hsl⟩, hB⟩
  obtain ⟨g, off, rfl, hlg, hrd⟩ := hsl.some (k := 0) (by decide)
  clear hS hsl
  have hz9 : w.heap.size + 8 ≤ w9.heap.size := by have := hB.size; simp at this; omega
  have hW : Below w.heap.size w w9 := by
    refine Below.trans ?_ (hB.mono (by simp; omega))
    exact ((((((((Below.refl _ w).alloc (Nat.le_refl _) _).alloc (by simp) _).alloc (by simp; omega) _).alloc (by simp; omega) _).alloc (by simp; omega) _).alloc (by simp; omega) _).alloc (by simp; omega) _).alloc (by simp; omega) _
  have k9 : KS w9 w.heap.size g off := by
    obtain ⟨a0, a1⟩ := hrd 0 (by decide)
    obtain ⟨a2, a3⟩ := hrd 1 (by decide)
    obtain ⟨a4, a5⟩ := hrd 2 (by decide)
    obtain ⟨a6, a7⟩ := hrd 3 (by decide)
    exact ⟨(hB.cell (p := ⟨w.heap.size, 0, none⟩) (by simp; try omega)).trans (by simp [go_sem]), (hB.cell (p := ⟨w.heap.size, 1, none⟩) (by simp; try omega)).trans (by simp [go_sem]), (hB.cell (p := ⟨w.heap.size + 1 + 1 + 1, 0, none⟩) (by simp; try omega)).trans (by simp [go_sem]), (hB.cell (p := ⟨w.heap.size + 1 + 1 + 1, 1, none⟩) (by simp; try omega)).trans (by simp [go_sem]), (hB.cell (p := ⟨w.heap.size + 1, 0, none⟩) (by simp; try omega)).trans (by simp [go_sem]), (hB.cell (p := ⟨w.heap.size + 1, 1, none⟩) (by simp; try omega)).trans (by simp [go_sem]), (hB.cell (p := ⟨w.heap.size + 1 + 1 + 1 + 1, 0, none⟩) (by simp; try omega)).trans (by simp [go_sem]), (hB.cell (p := ⟨w.heap.size + 1 + 1 + 1 + 1, 1, none⟩) (by simp; try omega)).trans (by simp [go_sem]), a0, a1, a2, a3, a4, a5, a6, a7⟩
  have g9 := keepK ((Below.refl _ w9).drew) (by omega) hlg k9
  clear hB hrd
  unfold KS at k9
  go_wp2_with fail
  go_region_held3 (fun w' => w'.cell? ⟨w.heap.size, 0, none⟩ = some (.int .i64 0) ∧ w'.cell? ⟨w.heap.size, 1, none⟩ = some (.int .i64 1) ∧ w'.cell? ⟨w.heap.size + 1 + 1 + 1, 0, none⟩ = some (.int .i64 0) ∧ w'.cell? ⟨w.heap.size + 1 + 1 + 1, 1, none⟩ = some (.int .i64 4) ∧ w'.cell? ⟨w.heap.size + 1, 0, none⟩ = some (.int .i64 0) ∧ w'.cell? ⟨w.heap.size + 1, 1, none⟩ = some (.int .i64 2) ∧ w'.cell? ⟨w.heap.size + 1 + 1 + 1 + 1, 0, none⟩ = some (.int .i64 0) ∧ w'.cell? ⟨w.heap.size + 1 + 1 + 1 + 1, 1, none⟩ = some (.int .i64 5) ∧ w'.cell? ⟨g, off, none⟩ = some (.int .i64 0) ∧ w'.cell? ⟨g, off + 1, none⟩ = some (.int .i64 1) ∧ w'.cell? ⟨g, off + 2, none⟩ = some (.int .i64 0) ∧ w'.cell? ⟨g, off + 3, none⟩ = some (.int .i64 4) ∧ w'.cell? ⟨g, off + 4, none⟩ = some (.int .i64 0) ∧ w'.cell? ⟨g, off + 5, none⟩ = some (.int .i64 2) ∧ w'.cell? ⟨g, off + 6, none⟩ = some (.int .i64 0) ∧ w'.cell? ⟨g, off + 7, none⟩ = some (.int .i64 5))
    (first | exact g9 | exact k10)
    ((go_at_call 14; refine (textEx _).mono ?_; rintro e w10 ⟨rfl, hb10⟩; have k10 := keepK hb10 (by show _ < w9.heap.size; omega) hlg g9; have W10 := hW.drew.trans (hb10.mono (by show w.heap.size ≤ w9.heap.size; omega))))
  go_wp2_with fail
  go_ret
  exact ⟨rfl, W10⟩
end Go.Proofs.YtacoeahipklibaaDoor
