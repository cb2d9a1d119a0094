/- Changes of a list within a range: what stays, what is ascending. Plain. -/
import Derived.Test.YtmbchdfgckmpoaaGreatS1
namespace Go.Proofs.YtmbchdfgckmpoaaGreat

theorem nth_set {l : List Ply} {i : Nat} {x : Ply} (h : i < l.length) (k : Nat) : nth (l.set i x) k = if k = i then x else nth l k := by
  unfold nth
  rw [List.getD_eq_getElem?_getD, List.getD_eq_getElem?_getD, List.getElem?_set]
  by_cases e : k = i
  · subst e
    rw [if_pos rfl, if_pos rfl, if_pos h]; rfl
  · rw [if_neg (fun c => e c.symm), if_neg e]
def swapL (l : List Ply) (i j : Nat) : List Ply := (l.set i (nth l j)).set j (nth l i)
theorem swapL_length (l : List Ply) (i j : Nat) : (swapL l i j).length = l.length := by simp [swapL]
theorem nth_swapL {l : List Ply} {i j : Nat} (hi : i < l.length) (hj : j < l.length) (k : Nat) : nth (swapL l i j) k = if k = j then nth l i else if k = i then nth l j else nth l k := by
  unfold swapL
  rw [nth_set (by simpa using hj), nth_set hi]
theorem count_set {l : List Ply} {i : Nat} (h : i < l.length) (x y : Ply) : (l.set i x).count y + (if nth l i == y then 1 else 0) = l.count y + (if x == y then 1 else 0) := by
  induction l generalizing i with
  | nil => simp at h
  | cons z l ih =>
    cases i with
    | zero =>
      simp only [List.set_cons_zero, List.count_cons, nth, List.getD_cons_zero]
      omega
    | succ i =>
      have := ih (i := i) (by simpa using h)
      have e : nth (z :: l) (i + 1) = nth l i := rfl
      rw [e, List.set_cons_succ, List.count_cons, List.count_cons]
      omega
theorem swapL_perm {l : List Ply} {i j : Nat} (hi : i < l.length) (hj : j < l.length) : l.Perm (swapL l i j) := by
  rw [List.perm_iff_count]
  intro y
  unfold swapL
  have h1 := count_set hi (nth l j) y
  have h2 := count_set (l := l.set i (nth l j)) (i := j) (by simpa using hj) (nth l i) y
  rw [nth_set hi] at h2
  by_cases e : j = i
  · subst e
    rw [if_pos rfl] at h2
    omega
  · rw [if_neg e] at h2
    omega
/-- Within a range a list is changed to another. -/
structure Same (a b : Nat) (l m : List Ply) : Prop where
  perm : l.Perm m
  out : ∀ i, i < a ∨ b ≤ i → nth m i = nth l i
  inn : ∀ i, a ≤ i → i < b → ∃ j, a ≤ j ∧ j < b ∧ nth m i = nth l j
theorem Same.refl (a b : Nat) (l : List Ply) : Same a b l l := ⟨.refl _, fun _ _ => rfl, fun i h1 h2 => ⟨i, h1, h2, rfl⟩⟩
theorem Same.trans {a b : Nat} {l m k : List Ply} (h : Same a b l m) (g : Same a b m k) : Same a b l k :=
  ⟨h.perm.trans g.perm, fun i hi => (g.out i hi).trans (h.out i hi), fun i h1 h2 => by
    obtain ⟨j, j1, j2, e⟩ := g.inn i h1 h2
    obtain ⟨p, p1, p2, e2⟩ := h.inn j j1 j2
    exact ⟨p, p1, p2, e.trans e2⟩⟩
theorem Same.mono {a b a' b' : Nat} {l m : List Ply} (h : Same a b l m) (ha : a' ≤ a) (hb : b ≤ b') : Same a' b' l m :=
  ⟨h.perm, fun i hi => h.out i (by omega), fun i h1 h2 => by
    by_cases hc : a ≤ i ∧ i < b
    · obtain ⟨j, j1, j2, e⟩ := h.inn i hc.1 hc.2
      exact ⟨j, by omega, by omega, e⟩
    · exact ⟨i, h1, h2, h.out i (by omega)⟩⟩
theorem Same.length {a b : Nat} {l m : List Ply} (h : Same a b l m) : m.length = l.length := h.perm.length_eq.symm
theorem same_swap {a b : Nat} {l : List Ply} {i j : Nat} (hb : b ≤ l.length) (i1 : a ≤ i) (i2 : i < b) (j1 : a ≤ j) (j2 : j < b) : Same a b l (swapL l i j) :=
  ⟨swapL_perm (by omega) (by omega), fun k hk => by rw [nth_swapL (by omega) (by omega), if_neg (by omega), if_neg (by omega)], fun k h1 h2 => by
    rw [nth_swapL (by omega) (by omega)]
    by_cases e1 : k = j
    · exact ⟨i, i1, i2, by rw [if_pos e1]⟩
    · by_cases e2 : k = i
      · exact ⟨j, j1, j2, by rw [if_neg e1, if_pos e2]⟩
      · exact ⟨k, h1, h2, by rw [if_neg e1, if_neg e2]⟩⟩
/-- A range is ascending. -/
def AscR (l : List Ply) (a b : Nat) : Prop := ∀ i j, a ≤ i → i ≤ j → j < b → cmpY (nth l i) (nth l j) ≤ 0
theorem asc_of {l : List Ply} (h : AscR l 0 l.length) : Asc l := by
  unfold Asc
  rw [List.pairwise_iff_getElem]
  intro i j hi hj hij
  have := h i j (by omega) (by omega) hj
  unfold nth at this
  rw [List.getD_eq_getElem?_getD, List.getElem?_eq_getElem hi, List.getD_eq_getElem?_getD, List.getElem?_eq_getElem hj] at this
  exact this
theorem sorted_unique {l m k : List Ply} (h1 : Same 0 l.length l m) (h2 : Same 0 l.length l k) (a1 : AscR m 0 l.length) (a2 : AscR k 0 l.length) : m = k :=
  asc_unique (h1.perm.symm.trans h2.perm) (asc_of (by rw [h1.length]; exact a1)) (asc_of (by rw [h2.length]; exact a2))
/-- Insertion: the range but for one place j is ascending, and what stands behind j is not below what stands at j. -/
structure Ins (l : List Ply) (a j i : Nat) : Prop where
  rest : ∀ p q, a ≤ p → p ≤ q → q < i + 1 → p ≠ j → q ≠ j → cmpY (nth l p) (nth l q) ≤ 0
  back : ∀ q, j < q → q < i + 1 → cmpY (nth l j) (nth l q) ≤ 0
theorem Ins.start {l : List Ply} {a i : Nat} (h : AscR l a i) : Ins l a i i :=
  ⟨fun p q h1 h2 h3 h4 h5 => h p q h1 h2 (by omega), fun q h1 h2 => by omega⟩
theorem Ins.done {l : List Ply} {a j i : Nat} (h : Ins l a j i) (hj : j ≤ a ∨ cmpY (nth l (j - 1)) (nth l j) ≤ 0) (ha : a ≤ j) (hi : j ≤ i) : AscR l a (i + 1) := by
  intro p q h1 h2 h3
  by_cases hp : p = j
  · subst hp
    by_cases hq : q = p
    · subst hq; rw [cmpY_self]; omega
    · exact h.back q (by omega) h3
  · by_cases hq : q = j
    · subst hq
      rcases hj with hj | hj
      · omega
      · by_cases e : p = q - 1
        · subst e; exact hj
        · exact cmpY_trans (h.rest p (q - 1) h1 (by omega) (by omega) hp (by omega)) hj
    · exact h.rest p q h1 h2 h3 hp hq
theorem Ins.step {l : List Ply} {a j i : Nat} (h : Ins l a j i) (hj : a < j) (hi : j ≤ i) (hl : i < l.length) (hc : cmpY (nth l j) (nth l (j - 1)) ≤ 0) : Ins (swapL l j (j - 1)) a (j - 1) i := by
  have e := fun k => nth_swapL (l := l) (i := j) (j := j - 1) (by omega) (by omega) k
  constructor
  · intro p q h1 h2 h3 h4 h5
    rw [e, e, if_neg h4, if_neg h5]
    by_cases hp : p = j
    · rw [if_pos hp]
      by_cases hq : q = j
      · rw [if_pos hq, cmpY_self]; omega
      · rw [if_neg hq]
        exact h.rest (j - 1) q (by omega) (by omega) h3 (by omega) hq
    · rw [if_neg hp]
      by_cases hq : q = j
      · rw [if_pos hq]
        exact h.rest p (j - 1) h1 (by omega) (by omega) hp (by omega)
      · rw [if_neg hq]
        exact h.rest p q h1 h2 h3 hp hq
  · intro q h1 h2
    rw [e, e, if_pos rfl, if_neg (by omega)]
    by_cases hq : q = j
    · rw [if_pos hq]; exact hc
    · rw [if_neg hq]
      exact h.back q (by omega) h2
end Go.Proofs.YtmbchdfgckmpoaaGreat
