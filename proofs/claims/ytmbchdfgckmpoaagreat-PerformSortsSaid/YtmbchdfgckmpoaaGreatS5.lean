/- A note stored into a row that a call owns; insertion sort of a range. -/
import Derived.Test.YtmbchdfgckmpoaaGreatS2
import Derived.Test.YtmbchdfgckmpoaaGreatS4
namespace Go.Proofs.YtmbchdfgckmpoaaGreat
open Go.RowKit Go.Sort

def putI (w : World) (g i : Nat) (x : Ply) : World := (((((((w.setCell ⟨g, i * 7, none⟩ (.int .i64 x.o)).setCell ⟨g, i * 7 + 1, none⟩ (.int .i64 x.f)).setCell ⟨g, i * 7 + 2, none⟩ (.int .i64 x.n)).setCell ⟨g, i * 7 + 3, none⟩ (.int .i64 x.v)).setCell ⟨g, i * 7 + 4, none⟩ (.int .i64 x.p)).setCell ⟨g, i * 7 + 5, none⟩ (.int .i64 x.s)).setCell ⟨g, i * 7 + 6, none⟩ (.int .i64 x.e))
theorem cellsY_cons (z : Ply) (l : List Ply) : cellsY (z :: l) = .int .i64 z.o :: .int .i64 z.f :: .int .i64 z.n :: .int .i64 z.v :: .int .i64 z.p :: .int .i64 z.s :: .int .i64 z.e :: cellsY l := rfl
theorem cellsY_set (x : Ply) : ∀ (l : List Ply) (i : Nat), cellsY (l.set i x) = ((((((((((((((cellsY l).set (i * 7) (.int .i64 x.o))).set (i * 7 + 1) (.int .i64 x.f))).set (i * 7 + 2) (.int .i64 x.n))).set (i * 7 + 3) (.int .i64 x.v))).set (i * 7 + 4) (.int .i64 x.p))).set (i * 7 + 5) (.int .i64 x.s))).set (i * 7 + 6) (.int .i64 x.e))
  | [], i => by simp [cellsY]
  | z :: l, 0 => by simp [cellsY_cons]
  | z :: l, i + 1 => by
    have ih := cellsY_set x l i
    rw [List.set_cons_succ, cellsY_cons, ih, cellsY_cons]
    simp only [show (i + 1) * 7 = i * 7 + 1 + 1 + 1 + 1 + 1 + 1 + 1 by omega, show ∀ k : Nat, i * 7 + 1 + 1 + 1 + 1 + 1 + 1 + 1 + k = (i * 7 + k) + 1 + 1 + 1 + 1 + 1 + 1 + 1 by omega, List.set_cons_succ]
theorem own_put {w : World} {base g n cap : Nat} {l : List Ply} (h : w.ownsRow base 30 7 (.slice (some ⟨g, 0, none⟩) n cap) n (cellsY l)) (i : Nat) (x : Ply) :
    (putI w g i x).ownsRow base 30 7 (.slice (some ⟨g, 0, none⟩) n cap) n (cellsY (l.set i x)) := by
  rw [cellsY_set]
  have h0 := h
  have h1 := (h0.stored (i * 7) (.int .i64 x.o)).1
  have h2 := (h1.stored (i * 7 + 1) (.int .i64 x.f)).1
  have h3 := (h2.stored (i * 7 + 2) (.int .i64 x.n)).1
  have h4 := (h3.stored (i * 7 + 3) (.int .i64 x.v)).1
  have h5 := (h4.stored (i * 7 + 4) (.int .i64 x.p)).1
  have h6 := (h5.stored (i * 7 + 5) (.int .i64 x.s)).1
  have h7 := (h6.stored (i * 7 + 6) (.int .i64 x.e)).1
  exact h7
theorem putI_below {B : Nat} {a w : World} (h : Below B a w) {g : Nat} (hb : B ≤ g) (i : Nat) (x : Ply) : Below B a (putI w g i x) :=
  ((((((h.setCell (p := ⟨g, i * 7, none⟩) hb _).setCell (p := ⟨g, i * 7 + 1, none⟩) hb _).setCell (p := ⟨g, i * 7 + 2, none⟩) hb _).setCell (p := ⟨g, i * 7 + 3, none⟩) hb _).setCell (p := ⟨g, i * 7 + 4, none⟩) hb _).setCell (p := ⟨g, i * 7 + 5, none⟩) hb _).setCell (p := ⟨g, i * 7 + 6, none⟩) hb _
theorem putI_size (w : World) (g i : Nat) (x : Ply) : (putI w g i x).heap.size = w.heap.size := by simp [putI]
theorem own_at {w : World} {base g n cap : Nat} {l : List Ply} (h : w.ownsRow base 30 7 (.slice (some ⟨g, 0, none⟩) n cap) n (cellsY l)) (hn : l.length = n) {k : Nat} (hk : k < n) : AtY w g (k * 7) (nth l k) := by
  have hc := fun j (hj : j < 7) => h.cellAt (k * 7 + j) (by omega)
  have hg := fun j (hj : j < 7) => cellsY_get l k j (by omega) hj
  exact ⟨by rw [show k * 7 = k * 7 + 0 by omega, hc 0 (by omega), hg 0 (by omega)]; rfl, by rw [hc 1 (by omega), hg 1 (by omega)]; rfl, by rw [hc 2 (by omega), hg 2 (by omega)]; rfl, by rw [hc 3 (by omega), hg 3 (by omega)]; rfl, by rw [hc 4 (by omega), hg 4 (by omega)]; rfl, by rw [hc 5 (by omega), hg 5 (by omega)]; rfl, by rw [hc 6 (by omega), hg 6 (by omega)]; rfl⟩
def swapW (w : World) (g i j : Nat) (l : List Ply) : World := putI (putI w g i (nth l j)) g j (nth l i)
theorem own_swap {w : World} {base g n cap : Nat} {l : List Ply} (h : w.ownsRow base 30 7 (.slice (some ⟨g, 0, none⟩) n cap) n (cellsY l)) (i j : Nat) :
    (swapW w g i j l).ownsRow base 30 7 (.slice (some ⟨g, 0, none⟩) n cap) n (cellsY (swapL l i j)) := own_put (own_put h i _) j _
end Go.Proofs.YtmbchdfgckmpoaaGreat
