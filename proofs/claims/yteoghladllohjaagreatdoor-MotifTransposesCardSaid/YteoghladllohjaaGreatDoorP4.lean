/- Lengths that are multiplied and divided, in plain Lean. -/
import Derived.Test.YteoghladllohjaaGreatDoorP3
namespace Go.Proofs.YteoghladllohjaaGreatDoor

def augE (num den : Int) (t : Tone) : Int := if (t.len * num) % den ≠ 0 then 16 else if 123863040 < t.len * num / den then 2 else 0
def augT (num den : Int) (t : Tone) : Tone := ⟨t.len * num / den, t.p, t.rest⟩
def augErr (num den : Int) : List Tone → Int
  | [] => 0
  | t :: l => if augE num den t = 0 then augErr num den l else augE num den t
def augL (num den : Int) (l : List Tone) : List Tone := l.map (augT num den)

theorem augErr_drop {num den : Int} {l : List Tone} {k : Nat} (h : k < l.length) : augErr num den (l.drop k) = if augE num den (nth l k) = 0 then augErr num den (l.drop (k + 1)) else augE num den (nth l k) := by
  unfold nth
  rw [List.drop_eq_getElem_cons h, List.getD_eq_getElem?_getD, List.getElem?_eq_getElem h]
  rfl
theorem augErr_end {num den : Int} (l : List Tone) {k : Nat} (h : k = l.length) : augErr num den (l.drop k) = 0 := by
  rw [h, List.drop_length]; rfl
theorem augE_zero {num den : Int} {t : Tone} (h : augE num den t = 0) : (t.len * num) % den = 0 ∧ t.len * num / den ≤ 123863040 := by
  unfold augE at h
  split at h
  · omega
  · split at h <;> omega
theorem augErr_zero {num den : Int} {l : List Tone} (h : augErr num den l = 0) : ∀ t ∈ l, augE num den t = 0 := by
  induction l with
  | nil => intro t ht; cases ht
  | cons a l ih =>
    unfold augErr at h
    split at h
    · intro t ht
      rcases List.mem_cons.1 ht with rfl | ht
      · assumption
      · exact ih h t ht
    · contradiction
theorem augErr_all {num den : Int} {l : List Tone} (h : ∀ t ∈ l, augE num den t = 0) : augErr num den l = 0 := by
  induction l with
  | nil => rfl
  | cons a l ih =>
    unfold augErr
    rw [if_pos (h a (List.mem_cons_self ..))]
    exact ih fun t ht => h t (List.mem_cons_of_mem _ ht)
/-- A length that was turned is turned back. -/
theorem aug_one {num den : Int} (h1 : 1 ≤ num) (h2 : 1 ≤ den) {t : Tone} (ha : 1 ≤ t.len) (hb : t.len ≤ 123863040) (he : augE num den t = 0) :
    1 ≤ (augT num den t).len ∧ (augT num den t).len ≤ 123863040 ∧ augE den num (augT num den t) = 0 ∧ augT den num (augT num den t) = t := by
  obtain ⟨e1, e2⟩ := augE_zero he
  have hm : t.len * num / den * den = t.len * num := Int.ediv_mul_cancel (Int.dvd_of_emod_eq_zero e1)
  have hp : 1 ≤ t.len * num := Int.le_trans ha (by
    have := Int.mul_le_mul_of_nonneg_left h1 (show 0 ≤ t.len by omega)
    rwa [Int.mul_one] at this)
  have hq : 1 ≤ t.len * num / den := by
    apply Int.le_of_not_gt
    intro hlt
    have h0 : t.len * num / den * den ≤ 0 := Int.mul_nonpos_of_nonpos_of_nonneg (by omega) (by omega)
    omega
  have e3 : t.len * num / den * den / num = t.len := by rw [hm]; exact Int.mul_ediv_cancel _ (by omega)
  have e4 : (t.len * num / den * den) % num = 0 := by rw [hm]; exact Int.mul_emod_left _ _
  refine ⟨hq, e2, ?_, ?_⟩
  · show (if (t.len * num / den * den) % num ≠ 0 then 16 else if 123863040 < t.len * num / den * den / num then 2 else 0) = (0 : Int)
    rw [if_neg (by simpa using e4), if_neg (by rw [e3]; omega)]
  · show (⟨t.len * num / den * den / num, t.p, t.rest⟩ : Tone) = t
    rw [e3]
theorem augL_len (num den : Int) (l : List Tone) : (augL num den l).length = l.length := by simp [augL]
theorem augL_nth {num den : Int} {l : List Tone} {k : Nat} (h : k < l.length) : nth (augL num den l) k = augT num den (nth l k) := by
  unfold nth augL
  rw [List.getD_eq_getElem?_getD, List.getD_eq_getElem?_getD, List.getElem?_map, List.getElem?_eq_getElem h]
  rfl
theorem aug_tone {num den : Int} {t : Tone} (h : toneErr t = 0) (ha : 1 ≤ (augT num den t).len) (hb : (augT num den t).len ≤ 123863040) : toneErr (augT num den t) = 0 := by
  unfold toneErr at h ⊢
  rw [if_neg (by omega)]
  split at h
  · omega
  · exact h
theorem firstErr_all {l : List Tone} (h : ∀ t ∈ l, toneErr t = 0) : firstErr l = 0 := by
  induction l with
  | nil => rfl
  | cons a l ih =>
    unfold firstErr
    rw [if_pos (h a (List.mem_cons_self ..))]
    exact ih fun t ht => h t (List.mem_cons_of_mem _ ht)
/-- The whole motif is turned back. -/
theorem aug_back {num den : Int} (h1 : 1 ≤ num) (h2 : 1 ≤ den) {l : List Tone} (hc : checkL l = 0) (he : augErr num den l = 0) :
    checkL (augL num den l) = 0 ∧ augErr den num (augL num den l) = 0 ∧ augL den num (augL num den l) = l := by
  obtain ⟨a1, a2, a3⟩ := checkL_zero hc
  have hz := augErr_zero he
  have key := fun t (ht : t ∈ l) => aug_one h1 h2 (toneErr_zero (a3 t ht)).1 (toneErr_zero (a3 t ht)).2.1 (hz t ht)
  refine ⟨?_, augErr_all ?_, ?_⟩
  · unfold checkL
    rw [augL_len, if_neg (by omega), if_neg (by omega)]
    refine firstErr_all fun t ht => ?_
    obtain ⟨u, hu, rfl⟩ := List.mem_map.1 ht
    exact aug_tone (a3 u hu) (key u hu).1 (key u hu).2.1
  · intro t ht
    obtain ⟨u, hu, rfl⟩ := List.mem_map.1 ht
    exact (key u hu).2.2.1
  · unfold augL
    rw [List.map_map]
    exact (List.map_congr_left fun t ht => (key t ht).2.2.2).trans (List.map_id _)
end Go.Proofs.YteoghladllohjaaGreatDoor
