/- Exchanged blocks, rotated blocks, an element that is moved, two runs that are joined. Plain. -/
import Derived.Test.YtmbchdfgckmpoaaGreatS4
namespace Go.Proofs.YtmbchdfgckmpoaaGreat

def swr (f : Nat → Ply) (a b i k : Nat) : Ply := if a ≤ k ∧ k < a + i then f (k + (b - a)) else if b ≤ k ∧ k < b + i then f (k - (b - a)) else f k
theorem swr_zero (f : Nat → Ply) (a b k : Nat) : swr f a b 0 k = f k := by
  unfold swr
  rw [if_neg (by omega), if_neg (by omega)]
theorem swr_step {L M : List Ply} {a b i n : Nat} (hM : ∀ k, nth M k = swr (nth L) a b i k) (hi : i < n) (hab : a + n ≤ b) (hb : b + n ≤ M.length) (k : Nat) : nth (swapL M (a + i) (b + i)) k = swr (nth L) a b (i + 1) k := by
  rw [nth_swapL (by omega) (by omega)]
  simp only [hM]
  unfold swr
  (repeat' split) <;> first | omega | rfl | (congr 1; omega)
def rotN (f : Nat → Ply) (a m b k : Nat) : Ply := if a ≤ k ∧ k < a + (b - m) then f (k + (m - a)) else if a + (b - m) ≤ k ∧ k < b then f (k - (b - m)) else f k
theorem rot_left {f g : Nat → Ply} {m i j : Nat} (hg : ∀ k, g k = swr f (m - i) m j k) (hj : 0 < j) (hij : j < i) (him : i ≤ m) (k : Nat) : rotN g (m - (i - j)) m (m + j) k = rotN f (m - i) m (m + j) k := by
  unfold rotN
  simp only [hg]
  unfold swr
  (repeat' split) <;> first | omega | rfl | (congr 1; omega)
theorem rot_right {f g : Nat → Ply} {m i j : Nat} (hg : ∀ k, g k = swr f (m - i) (m + j - i) i k) (hi : 0 < i) (hij : i < j) (him : i ≤ m) (k : Nat) : rotN g (m - i) m (m + (j - i)) k = rotN f (m - i) m (m + j) k := by
  unfold rotN
  simp only [hg]
  unfold swr
  (repeat' split) <;> first | omega | rfl | (congr 1; omega)
theorem rot_end {f g : Nat → Ply} {m i : Nat} (hg : ∀ k, g k = swr f (m - i) m i k) (hi : 0 < i) (him : i ≤ m) (k : Nat) : g k = rotN f (m - i) m (m + i) k := by
  unfold rotN
  simp only [hg]
  unfold swr
  (repeat' split) <;> first | omega | rfl | (congr 1; omega)
/-- The element at a is moved on to t. -/
def mvR (f : Nat → Ply) (a t k : Nat) : Ply := if k = t then f a else if a ≤ k ∧ k < t then f (k + 1) else f k
theorem mvR_zero (f : Nat → Ply) (a k : Nat) : mvR f a a k = f k := by
  unfold mvR
  by_cases h : k = a
  · subst h; rw [if_pos rfl]
  · rw [if_neg h, if_neg (by omega)]
theorem mvR_step {L M : List Ply} {a t : Nat} (hM : ∀ k, nth M k = mvR (nth L) a t k) (ha : a ≤ t) (ht : t + 1 < M.length) (k : Nat) : nth (swapL M t (t + 1)) k = mvR (nth L) a (t + 1) k := by
  rw [nth_swapL (by omega) (by omega)]
  simp only [hM]
  unfold mvR
  (repeat' split) <;> first | omega | rfl | (congr 1; omega)
theorem mvR_asc {L M : List Ply} {a i b : Nat} (hM : ∀ k, nth M k = mvR (nth L) a (i - 1) k) (ha : a + 1 ≤ i) (hi : i ≤ b) (hlo : ∀ q, a + 1 ≤ q → q < i → cmpY (nth L q) (nth L a) < 0) (hhi : ∀ q, i ≤ q → q < b → 0 ≤ cmpY (nth L q) (nth L a)) (hA : AscR L (a + 1) b) : AscR M a b := by
  intro p q h1 h2 h3
  rw [hM, hM]
  unfold mvR
  by_cases hp : p = i - 1
  · rw [if_pos hp]
    by_cases hq : q = i - 1
    · rw [if_pos hq, cmpY_self]; omega
    · rw [if_neg hq, if_neg (by omega)]
      have := hhi q (by omega) h3
      have := cmpY_neg (nth L q) (nth L a)
      omega
  · rw [if_neg hp]
    by_cases hp2 : p < i - 1
    · rw [if_pos ⟨h1, hp2⟩]
      by_cases hq : q = i - 1
      · rw [if_pos hq]
        have := hlo (p + 1) (by omega) (by omega)
        omega
      · rw [if_neg hq]
        by_cases hq2 : q < i - 1
        · rw [if_pos ⟨by omega, hq2⟩]
          exact hA (p + 1) (q + 1) (by omega) (by omega) (by omega)
        · rw [if_neg (by omega)]
          exact hA (p + 1) q (by omega) (by omega) h3
    · rw [if_neg (by omega), if_neg (by omega), if_neg (by omega)]
      exact hA p q (by omega) h2 h3
/-- The element at m is moved back to t. -/
def mvL (f : Nat → Ply) (m t k : Nat) : Ply := if k = t then f m else if t < k ∧ k ≤ m then f (k - 1) else f k
theorem mvL_zero (f : Nat → Ply) (m k : Nat) : mvL f m m k = f k := by
  unfold mvL
  by_cases h : k = m
  · subst h; rw [if_pos rfl]
  · rw [if_neg h, if_neg (by omega)]
theorem mvL_step {L M : List Ply} {m t : Nat} (hM : ∀ k, nth M k = mvL (nth L) m (t + 1) k) (ht : t + 1 ≤ m) (hm : m < M.length) (k : Nat) : nth (swapL M (t + 1) t) k = mvL (nth L) m t k := by
  rw [nth_swapL (by omega) (by omega)]
  simp only [hM]
  unfold mvL
  (repeat' split) <;> first | omega | rfl | (congr 1; omega)
theorem mvL_asc {L M : List Ply} {a i m : Nat} (hM : ∀ k, nth M k = mvL (nth L) m i k) (ha : a ≤ i) (hi : i ≤ m) (hlo : ∀ q, a ≤ q → q < i → 0 ≤ cmpY (nth L m) (nth L q)) (hhi : ∀ q, i ≤ q → q < m → cmpY (nth L m) (nth L q) < 0) (hA : AscR L a m) : AscR M a (m + 1) := by
  intro p q h1 h2 h3
  rw [hM, hM]
  unfold mvL
  by_cases hp : p = i
  · rw [if_pos hp]
    by_cases hq : q = i
    · rw [if_pos hq, cmpY_self]; omega
    · rw [if_neg hq, if_pos (by omega)]
      have := hhi (q - 1) (by omega) (by omega)
      omega
  · rw [if_neg hp]
    by_cases hp2 : p < i
    · rw [if_neg (by omega)]
      by_cases hq : q = i
      · rw [if_pos hq]
        have := hlo p h1 hp2
        have := cmpY_neg (nth L m) (nth L p)
        omega
      · rw [if_neg hq]
        by_cases hq2 : i < q
        · rw [if_pos (by omega)]
          exact hA p (q - 1) h1 (by omega) (by omega)
        · rw [if_neg (by omega)]
          exact hA p q h1 h2 (by omega)
    · rw [if_pos (by omega), if_neg (by omega), if_pos (by omega)]
      exact hA (p - 1) (q - 1) (by omega) (by omega) (by omega)
/-- Two halves, of which no element of the first is above one of the second. -/
theorem join_asc {a mid b : Nat} {L M K : List Ply} (hx : ∀ i j, a ≤ i → i < mid → mid ≤ j → j < b → cmpY (nth L i) (nth L j) ≤ 0) (h1 : Same a mid L M) (h2 : Same mid b M K) (a1 : AscR M a mid) (a2 : AscR K mid b) : AscR K a b := by
  intro p q hp hpq hq
  by_cases c1 : q < mid
  · rw [h2.out p (by omega), h2.out q (by omega)]
    exact a1 p q hp hpq c1
  · by_cases c2 : mid ≤ p
    · exact a2 p q c2 hpq hq
    · rw [h2.out p (by omega)]
      obtain ⟨i, i1, i2, e1⟩ := h1.inn p hp (by omega)
      obtain ⟨j, j1, j2, e2⟩ := h2.inn q (by omega) hq
      rw [e1, e2, h1.out j (by omega)]
      exact hx i j i1 i2 j1 j2
theorem asc_same {a b : Nat} {L M : List Ply} {f : Nat → Nat} (h : AscR L a b) {a' b' : Nat} (he : ∀ k, a' ≤ k → k < b' → nth M k = nth L (f k) ∧ a ≤ f k ∧ f k < b) (hm : ∀ i j, a' ≤ i → i ≤ j → j < b' → f i ≤ f j) : AscR M a' b' := fun i j h1 h2 h3 => by
  obtain ⟨e1, x1, _⟩ := he i h1 (by omega)
  obtain ⟨e2, _, y2⟩ := he j (by omega) h3
  rw [e1, e2]
  exact h _ _ x1 (hm i j h1 h2 h3) y2
/-- After the search and the rotation: the halves of symMerge. -/
theorem rot_halves {L M : List Ply} {a m b mid s e : Nat} (hM : ∀ k, nth M k = rotN (nth L) s m e k) (h1 : AscR L a m) (h2 : AscR L m b) (has : a ≤ s) (hsm : s ≤ m) (hme : m ≤ e) (heb : e ≤ b) (hmid : mid + m = s + e)
    (c1 : s = a ∨ e = b ∨ cmpY (nth L (s - 1)) (nth L e) ≤ 0) (c2 : m = e ∨ s = m ∨ cmpY (nth L (e - 1)) (nth L s) ≤ 0) :
    AscR M a s ∧ AscR M s mid ∧ AscR M mid e ∧ AscR M e b ∧ ∀ i j, a ≤ i → i < mid → mid ≤ j → j < b → cmpY (nth M i) (nth M j) ≤ 0 := by
  have r1 : ∀ k, k < s → nth M k = nth L k := fun k hk => by rw [hM]; unfold rotN; rw [if_neg (by omega), if_neg (by omega)]
  have r2 : ∀ k, s ≤ k → k < mid → nth M k = nth L (k + (m - s)) := fun k hk hk2 => by rw [hM]; unfold rotN; rw [if_pos (by omega)]
  have r3 : ∀ k, mid ≤ k → k < e → nth M k = nth L (k - (e - m)) := fun k hk hk2 => by rw [hM]; unfold rotN; rw [if_neg (by omega), if_pos (by omega)]
  have r4 : ∀ k, e ≤ k → nth M k = nth L k := fun k hk => by rw [hM]; unfold rotN; rw [if_neg (by omega), if_neg (by omega)]
  refine ⟨fun i j i1 i2 i3 => by rw [r1 i (by omega), r1 j i3]; exact h1 i j i1 i2 (by omega), fun i j i1 i2 i3 => by rw [r2 i i1 (by omega), r2 j (by omega) i3]; exact h2 _ _ (by omega) (by omega) (by omega), fun i j i1 i2 i3 => by rw [r3 i i1 (by omega), r3 j (by omega) i3]; exact h1 _ _ (by omega) (by omega) (by omega), fun i j i1 i2 i3 => by rw [r4 i i1, r4 j (by omega)]; exact h2 _ _ (by omega) i2 i3, fun i j i1 i2 i3 i4 => ?_⟩
  by_cases g1 : i < s
  · rw [r1 i g1]
    by_cases g2 : j < e
    · rw [r3 j i3 g2]
      exact h1 _ _ i1 (by omega) (by omega)
    · rw [r4 j (by omega)]
      have hc : cmpY (nth L (s - 1)) (nth L e) ≤ 0 := by
        rcases c1 with h | h | h
        · omega
        · omega
        · exact h
      exact cmpY_trans (h1 i (s - 1) i1 (by omega) (by omega)) (cmpY_trans hc (h2 e j (by omega) (by omega) i4))
  · rw [r2 i (by omega) i2]
    by_cases g2 : j < e
    · rw [r3 j i3 g2]
      have hc : cmpY (nth L (e - 1)) (nth L s) ≤ 0 := by
        rcases c2 with h | h | h
        · omega
        · omega
        · exact h
      exact cmpY_trans (h2 _ (e - 1) (by omega) (by omega) (by omega)) (cmpY_trans hc (h1 s _ has (by omega) (by omega)))
    · rw [r4 j (by omega)]
      exact h2 _ _ (by omega) (by omega) i4
/-- What is described by a range's own elements, and keeps the list's elements, is a change within the range. -/
theorem Same.of {a b : Nat} {L M : List Ply} (hp : L.Perm M) (f : Nat → Nat) (h : ∀ k, nth M k = nth L (f k)) (ho : ∀ k, k < a ∨ b ≤ k → f k = k) (hi : ∀ k, a ≤ k → k < b → a ≤ f k ∧ f k < b) : Same a b L M :=
  ⟨hp, fun i hi => by rw [h, ho i hi], fun i h1 h2 => ⟨f i, (hi i h1 h2).1, (hi i h1 h2).2, h i⟩⟩

def mvRi (a t k : Nat) : Nat := if k = t then a else if a ≤ k ∧ k < t then k + 1 else k
theorem mvR_ix (f : Nat → Ply) (a t k : Nat) : mvR f a t k = f (mvRi a t k) := by
  unfold mvR mvRi
  (repeat' split) <;> rfl
def mvLi (m t k : Nat) : Nat := if k = t then m else if t < k ∧ k ≤ m then k - 1 else k
theorem mvL_ix (f : Nat → Ply) (m t k : Nat) : mvL f m t k = f (mvLi m t k) := by
  unfold mvL mvLi
  (repeat' split) <;> rfl
def rotI (a m b k : Nat) : Nat := if a ≤ k ∧ k < a + (b - m) then k + (m - a) else if a + (b - m) ≤ k ∧ k < b then k - (b - m) else k
theorem rot_ix (f : Nat → Ply) (a m b k : Nat) : rotN f a m b k = f (rotI a m b k) := by
  unfold rotN rotI
  (repeat' split) <;> rfl
theorem same_mvR {L M : List Ply} {a t b : Nat} (hp : L.Perm M) (h : ∀ k, nth M k = mvR (nth L) a t k) (ha : a ≤ t) (ht : t < b) : Same a b L M :=
  Same.of hp (mvRi a t) (fun k => (h k).trans (mvR_ix _ _ _ _)) (fun k hk => by unfold mvRi; rw [if_neg (by omega), if_neg (by omega)]) (fun k h1 h2 => by unfold mvRi; (repeat' split) <;> omega)
theorem same_mvL {L M : List Ply} {a t m : Nat} (hp : L.Perm M) (h : ∀ k, nth M k = mvL (nth L) m t k) (ha : a ≤ t) (ht : t ≤ m) : Same a (m + 1) L M :=
  Same.of hp (mvLi m t) (fun k => (h k).trans (mvL_ix _ _ _ _)) (fun k hk => by unfold mvLi; rw [if_neg (by omega), if_neg (by omega)]) (fun k h1 h2 => by unfold mvLi; (repeat' split) <;> omega)
theorem same_rot {L M : List Ply} {a s m e b : Nat} (hp : L.Perm M) (h : ∀ k, nth M k = rotN (nth L) s m e k) (h1 : a ≤ s) (h2 : s ≤ m) (h3 : m ≤ e) (h4 : e ≤ b) : Same a b L M :=
  Same.of hp (rotI s m e) (fun k => (h k).trans (rot_ix _ _ _ _ _)) (fun k hk => by unfold rotI; rw [if_neg (by omega), if_neg (by omega)]) (fun k k1 k2 => by unfold rotI; (repeat' split) <;> omega)
theorem rotN_none {f : Nat → Ply} {s m e : Nat} (h : s = m ∨ m = e) (hsm : s ≤ m) (hme : m ≤ e) (k : Nat) : rotN f s m e k = f k := by
  rw [rot_ix]
  congr 1
  unfold rotI
  (repeat' split) <;> omega
theorem cmpY_le_lt {x y z : Ply} (h1 : cmpY x y ≤ 0) (h2 : cmpY y z < 0) : cmpY x z < 0 := by
  have h := cmpY_trans h1 (by omega : cmpY y z ≤ 0)
  by_cases e : cmpY x z = 0
  · have e2 := cmpY_eq e
    subst e2
    have := cmpY_neg x y
    omega
  · omega
theorem cmpY_lt_le {x y z : Ply} (h1 : cmpY x y < 0) (h2 : cmpY y z ≤ 0) : cmpY x z < 0 := by
  have h := cmpY_trans (by omega : cmpY x y ≤ 0) h2
  by_cases e : cmpY x z = 0
  · have e2 := cmpY_eq e
    subst e2
    have := cmpY_neg x y
    omega
  · omega
theorem AscR.mono {L : List Ply} {a b c d : Nat} (h : AscR L a b) (h1 : a ≤ c) (h2 : d ≤ b) : AscR L c d := fun i j h3 h4 h5 => h i j (by omega) h4 (by omega)
end Go.Proofs.YtmbchdfgckmpoaaGreat
