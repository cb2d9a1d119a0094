/- Clone, and the plain times of stretches. -/
import Derived.Test.YtgfbmdpjgcibjaaE5
import Derived.Test.YtgfbmdpjgcibjaaL
import Derived.Laws.OwnMore
import Derived.Laws.Rows
import Derived.OwnWalk
namespace Go.Proofs.Ytgfbmdpjgcibjaa
open Go.RowKit

/-- When the k-th stretch begins. -/
def tmF (X : Nat → St) : Nat → Int
  | 0 => 0
  | k + 1 => untilF ⟨(X k).b, (X k).e, (X k).f, (X k).t, tmF X k⟩ (X k).e
/-- The k-th stretch with its time. -/
def timedAt (X : Nat → St) (k : Nat) : St := ⟨(X k).b, (X k).e, (X k).f, (X k).t, tmF X k⟩

/-- n stretches in order. -/
structure Okay (X : Nat → St) (n : Nat) : Prop where
  n0 : 0 < n
  b0 : (X 0).b = 0
  nx : ∀ k, k + 1 < n → (X (k + 1)).b = (X k).e
  be : ∀ k, k < n → (X k).b < (X k).e
  e1 : ∀ k, k < n → (X k).e ≤ 4398046511104
  f0 : ∀ k, k < n → 1 ≤ (X k).f
  f1 : ∀ k, k < n → (X k).f ≤ 60000000
  t0 : ∀ k, k < n → 1 ≤ (X k).t
  t1 : ∀ k, k < n → (X k).t ≤ 60000000

/-- The end of the k-th stretch, from 0 on. -/
def endF (X : Nat → St) : Nat → Int
  | 0 => 0
  | k + 1 => (X k).e
theorem Okay.begin {X : Nat → St} {n : Nat} (h : Okay X n) (k : Nat) (hk : k < n) : (X k).b = endF X k := by
  cases k with
  | zero => exact h.b0
  | succ k => exact h.nx k hk
theorem Okay.end0 {X : Nat → St} {n : Nat} (h : Okay X n) : ∀ k, k ≤ n → 0 ≤ endF X k
  | 0, _ => Int.le_refl _
  | k + 1, hk => by
    have h1 := h.end0 k (by omega)
    have h2 := h.be k (by omega)
    rw [h.begin k (by omega)] at h2
    show 0 ≤ (X k).e
    omega
theorem Okay.begin0 {X : Nat → St} {n : Nat} (h : Okay X n) (k : Nat) (hk : k < n) : 0 ≤ (X k).b := by
  rw [h.begin k hk]; exact h.end0 k (by omega)
theorem Okay.tm {X : Nat → St} {n : Nat} (h : Okay X n) : ∀ k, k ≤ n → 0 ≤ tmF X k ∧ tmF X k ≤ 125 * endF X k
  | 0, _ => ⟨Int.le_refl _, Int.le_refl _⟩
  | k + 1, hk => by
    obtain ⟨h1, h2⟩ := h.tm k (by omega)
    have hb := h.begin k (by omega)
    have h3 := h.be k (by omega)
    obtain ⟨i0, i1⟩ := intF_bd (fr := (X k).f) (tp := (X k).t) (L := (X k).e - (X k).b) (k := (X k).e - (X k).b) (h.f0 k (by omega)) (h.f1 k (by omega)) (h.t0 k (by omega)) (h.t1 k (by omega)) (by omega) (by omega) (by omega)
    show 0 ≤ tmF X k + intF _ _ _ _ ∧ tmF X k + intF _ _ _ _ ≤ 125 * (X k).e
    constructor
    · exact Int.add_nonneg h1 i0
    · have : endF X k = (X k).b := hb.symm
      show tmF X k + intF (X k).f (X k).t ((X k).e - (X k).b) ((X k).e - (X k).b) ≤ 125 * (X k).e
      omega
theorem Okay.inS {X : Nat → St} {n : Nat} (h : Okay X n) (k : Nat) (hk : k < n) {tick : Int} (k0 : (X k).b ≤ tick) (k1 : tick ≤ (X k).e) : InS (timedAt X k) tick := by
  obtain ⟨h1, h2⟩ := h.tm k (by omega)
  rw [← h.begin k hk] at h2
  have h3 := h.be k hk
  have h4 := h.e1 k hk
  exact ⟨h.begin0 k hk, h3, h4, h.f0 k hk, h.f1 k hk, h.t0 k hk, h.t1 k hk, k0, k1, h1, by show tmF X k ≤ _; omega⟩

/-- The cells of n stretches. -/
def cellsS (X : Nat → St) : Nat → List Value
  | 0 => []
  | n + 1 => cellsS X n ++ encSt (X n)
theorem cellsS_len (X : Nat → St) : ∀ n, (cellsS X n).length = n * 5
  | 0 => rfl
  | n + 1 => by simp [cellsS, cellsS_len X n, encSt]; omega
theorem cellsS_one (X : Nat → St) : ∀ n, ∀ u ∈ cellsS X n, u.oneCell' = true
  | 0, u, h => by simp [cellsS] at h
  | n + 1, u, h => by
    simp only [cellsS, List.mem_append] at h
    rcases h with h | h
    · exact cellsS_one X n u h
    · simp [encSt] at h
      rcases h with rfl | rfl | rfl | rfl | rfl <;> rfl
theorem cellsS_get (X : Nat → St) : ∀ n k j, k < n → j < 5 → (cellsS X n)[k * 5 + j]? = (encSt (X k))[j]?
  | n + 1, k, j, hk, hj => by
    simp only [cellsS]
    by_cases h : k < n
    · rw [List.getElem?_append_left (by rw [cellsS_len]; omega)]
      exact cellsS_get X n k j h hj
    · obtain rfl : k = n := by omega
      rw [List.getElem?_append_right (by rw [cellsS_len]; omega), cellsS_len, Nat.add_sub_cancel_left]
theorem RdS.cells {w : World} {b off n : Nat} {X : Nat → St} (h : RdS w b off n X) : ∀ j u, (cellsS X n)[j]? = some u → w.cell? ⟨b, off + j, none⟩ = some u := by
  intro j u hu
  have hj : j < n * 5 := by
    have := (List.getElem?_eq_some_iff.mp hu).1
    rwa [cellsS_len] at this
  have e1 : j = j / 5 * 5 + j % 5 := by omega
  rw [e1, cellsS_get X n (j / 5) (j % 5) (by omega) (by omega)] at hu
  obtain ⟨h0, h1, h2, h3, h4⟩ := h (j / 5) (by omega)
  have hm : j % 5 < 5 := Nat.mod_lt _ (by omega)
  rw [e1, ← Nat.add_assoc]
  match hr : j % 5, hm with
  | 0, _ => rw [hr] at hu; simp [encSt] at hu; subst hu; exact h0
  | 1, _ => rw [hr] at hu; simp [encSt] at hu; subst hu; exact h1
  | 2, _ => rw [hr] at hu; simp [encSt] at hu; subst hu; exact h2
  | 3, _ => rw [hr] at hu; simp [encSt] at hu; subst hu; exact h3
  | 4, _ => rw [hr] at hu; simp [encSt] at hu; subst hu; exact h4
theorem RdS.ofCells {w : World} {g n : Nat} {X : Nat → St} (h : ∀ j, j < n * 5 → w.cell? ⟨g, j, none⟩ = (cellsS X n)[j]?) : RdS w g 0 n X := by
  intro k hk
  refine ⟨?_, ?_, ?_, ?_, ?_⟩
  · have := h (k * 5) (by omega); rw [Nat.zero_add, this]; have := cellsS_get X n k 0 hk (by omega); rw [Nat.add_zero] at this; exact this
  · rw [Nat.zero_add, h _ (by omega), cellsS_get X n k 1 hk (by omega)]; rfl
  · rw [Nat.zero_add, h _ (by omega), cellsS_get X n k 2 hk (by omega)]; rfl
  · rw [Nat.zero_add, h _ (by omega), cellsS_get X n k 3 hk (by omega)]; rfl
  · rw [Nat.zero_add, h _ (by omega), cellsS_get X n k 4 hk (by omega)]; rfl

/-- A block of the call's own that holds n stretches from its beginning on. -/
structure Own (w : World) (g cap n : Nat) (X : Nat → St) : Prop where
  rd : RdS w g 0 n X
  le : n ≤ cap
  cur : ∃ cur : Array Value, w.heap[g]? = some (.cells cur 38 (0, 0)) ∧ cur.size = cap * 5
theorem Own.lt {w : World} {g cap n : Nat} {X : Nat → St} (h : Own w g cap n X) : g < w.heap.size := by
  obtain ⟨_, _, cur, hc, _⟩ := h
  exact (Array.getElem?_eq_some_iff.mp hc).1
theorem Own.below {w w' : World} {g cap n B : Nat} {X : Nat → St} (h : Own w g cap n X) (hb : Below B w w') (hB : g < B) : Own w' g cap n X := by
  obtain ⟨h1, h2, cur, h3, h4⟩ := h
  exact ⟨h1.below hb hB, h2, cur, by rw [hb.block g hB]; exact h3, h4⟩
theorem Own.frozen {w : World} {g cap n : Nat} {X : Nat → St} (h : Own w g cap n X) (j : Nat) : w.frozen? ⟨g, j, none⟩ = false := by
  obtain ⟨h1, h2, cur, h3, h4⟩ := h
  exact frozen_of_row w g j cur 38 h3
theorem Own.stored {w : World} {g cap n : Nat} {X : Nat → St} (h : Own w g cap n X) (i : Nat) (hi : i < n) (v : Int) :
    Own (w.setCell ⟨g, 0 + i * 5 + 4, none⟩ (.int .i64 v)) g cap n (fun k => if k = i then ⟨(X k).b, (X k).e, (X k).f, (X k).t, v⟩ else X k) := by
  obtain ⟨h1, h2, cur, h3, h4⟩ := h
  refine ⟨?_, h2, _, heap_setCell_same w g _ cur 38 _ h3, by simpa using h4⟩
  have hin : (w.cell? ⟨g, 0 + i * 5 + 4, none⟩).isSome = true := by rw [(h1 i hi).2.2.2.2]; rfl
  have ho : ∀ j, j ≠ 0 + i * 5 + 4 → (w.setCell ⟨g, 0 + i * 5 + 4, none⟩ (.int .i64 v)).cell? ⟨g, j, none⟩ = w.cell? ⟨g, j, none⟩ := by
    intro j hj
    rw [cell_of_row _ g j _ 38 (0, 0) (heap_setCell_same w g _ cur 38 _ h3), cell_of_row w g j cur 38 (0, 0) h3, Array.getElem?_setIfInBounds_ne (by omega)]
  intro k hk
  obtain ⟨a0, a1, a2, a3, a4⟩ := h1 k hk
  by_cases hki : k = i
  · subst hki
    simp only [if_true]
    exact ⟨by rw [ho _ (by omega)]; exact a0, by rw [ho _ (by omega)]; exact a1, by rw [ho _ (by omega)]; exact a2, by rw [ho _ (by omega)]; exact a3, World.cell?_setCell_same' _ _ _ hin⟩
  · simp only [if_neg hki]
    exact ⟨by rw [ho _ (by omega)]; exact a0, by rw [ho _ (by omega)]; exact a1, by rw [ho _ (by omega)]; exact a2, by rw [ho _ (by omega)]; exact a3, by rw [ho _ (by omega)]; exact a4⟩

theorem info38 : (Try.prog.info? 38).map (fun i => (i.zero, i.size, i.bytes)) = some (some (stV 0 0 0 0 0), 5, 40) := by kernel_rfl

theorem cloneC (b off n c : Nat) (X : Nat → St) (w : World) (hn0 : 0 < n) (hn : n ≤ 1000) (h : RdS w b off n X) :
    Calls Try.prog 44 #[.slice (some ⟨b, off, none⟩) n c] w fun r w' => (∃ g cap, r = .returned (.slice (some ⟨g, 0, none⟩) n cap) ∧ w.heap.size ≤ g ∧ Own w' g cap n X) ∧ Below w.heap.size w w' := by
  obtain ⟨i0, hi, hz0, hz1, hz2⟩ := info_parts info38
  refine (AnyE.slices_Clone Try.laysClone i0 _ 5 40 hi hz0 hz1 hz2 rfl (by omega) Try.sizeOf38 b off n c (cellsS X n) w (cellsS_len X n) (by unfold maxLen; omega) (by omega) h.cells (cellsS_one X n)).mono ?_
  rintro e w' ⟨v', rfl, hown, _, hb⟩
  refine ⟨?_, hb⟩
  obtain ⟨g, cap, rfl, _, _⟩ := hown.form hn0
  refine ⟨g, cap, rfl, (hown.lt g rfl).1, ?_⟩
  rcases hown.2 with ⟨h', _⟩ | ⟨g', cap', cur, h', _, hg, hnc, _, hcs, htake⟩
  · simp at h'
  · simp only [Value.slice.injEq, Option.some.injEq, Addr.mk.injEq, and_true, true_and] at h'
    obtain ⟨rfl, rfl⟩ := h'
    exact ⟨RdS.ofCells fun j hj => hown.cellAt j hj, hnc, cur, hg, hcs⟩
end Go.Proofs.Ytgfbmdpjgcibjaa
