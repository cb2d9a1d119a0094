/- Merged sequences in plain Lean: lists without repetitions, what comes where, what the merged sequence holds. -/
import GoSem.Claim
namespace Go.Proofs.YtacoeahipklibaaDoor

/-- An id: a site and a number, both within an int. -/
structure Id where
  (s n : Int)
  hs : (Lit.int .i64 s).wf = true
  hn : (Lit.int .i64 n).wf = true
deriving DecidableEq

def idZ : Id := ⟨0, 0, by decide, by decide⟩
def ith (l : List Id) (k : Nat) : Id := l.getD k idZ

theorem ith_mem {l : List Id} {k : Nat} (h : k < l.length) : ith l k ∈ l := by
  unfold ith; rw [List.getD_eq_getElem?_getD, List.getElem?_eq_getElem h]; exact List.getElem_mem h
theorem mem_ith {l : List Id} {x : Id} (h : x ∈ l) : ∃ k, k < l.length ∧ ith l k = x := by
  obtain ⟨k, hk, e⟩ := List.getElem_of_mem h
  exact ⟨k, hk, by unfold ith; rw [List.getD_eq_getElem?_getD, List.getElem?_eq_getElem hk]; exact e⟩

/-! ### Where an id is -/
def idxN : List Id → Id → Nat
  | [], _ => 0
  | y :: l, x => if y = x then 0 else idxN l x + 1
def idx (l : List Id) (x : Id) : Int := if x ∈ l then (idxN l x : Nat) else -1

theorem idxN_lt {x : Id} : ∀ {l : List Id}, x ∈ l → idxN l x < l.length
  | y :: l, h => by
    unfold idxN
    by_cases e : y = x
    · rw [if_pos e]; simp
    · rw [if_neg e]
      have : x ∈ l := by simpa [Ne.symm e] using h
      have := idxN_lt this
      simp; omega
theorem idxN_hit {x : Id} : ∀ {l : List Id} {i : Nat}, i < l.length → ith l i = x → (∀ j, j < i → ith l j ≠ x) → idxN l x = i
  | y :: l, 0, _, h, _ => by
    unfold idxN
    have h : y = x := h
    rw [if_pos h]
  | y :: l, i + 1, hi, h, hn => by
    unfold idxN
    have h0 : y ≠ x := hn 0 (by omega)
    rw [if_neg h0, idxN_hit (l := l) (i := i) (by simpa using hi) h (fun j hj => hn (j + 1) (by omega))]
theorem idx_hit {l : List Id} {x : Id} {i : Nat} (hi : i < l.length) (h : ith l i = x) (hn : ∀ j, j < i → ith l j ≠ x) : idx l x = i := by
  unfold idx
  rw [if_pos (h ▸ ith_mem hi), idxN_hit hi h hn]
theorem idx_miss {l : List Id} {x : Id} (hn : ∀ j, j < l.length → ith l j ≠ x) : idx l x = -1 := by
  unfold idx
  rw [if_neg]
  intro h
  obtain ⟨k, hk, e⟩ := mem_ith h
  exact hn k hk e
theorem idx_nonneg {l : List Id} {x : Id} : 0 ≤ idx l x ↔ x ∈ l := by
  unfold idx
  constructor
  · intro h
    split at h
    · assumption
    · omega
  · intro h
    rw [if_pos h]; omega
theorem idx_bd (l : List Id) (x : Id) : -1 ≤ idx l x ∧ idx l x < l.length := by
  unfold idx
  split
  · rename_i h; have := idxN_lt h; omega
  · omega
theorem nodup_ith {l : List Id} (h : l.Nodup) {i j : Nat} (hi : i < l.length) (hj : j < l.length) (e : ith l i = ith l j) : i = j := by
  unfold ith at e
  rw [List.getD_eq_getElem?_getD, List.getD_eq_getElem?_getD, List.getElem?_eq_getElem hi, List.getElem?_eq_getElem hj] at e
  have e' : l[i] = l[j] := e
  rcases Nat.lt_trichotomy i j with h1 | h1 | h1
  · exact absurd e' (List.pairwise_iff_getElem.1 h i j hi hj h1)
  · exact h1
  · exact absurd e'.symm (List.pairwise_iff_getElem.1 h j i hj hi h1)
theorem idx_nodup {l : List Id} (h : l.Nodup) {i : Nat} (hi : i < l.length) : idx l (ith l i) = i :=
  idx_hit hi rfl fun j hj e => by have := nodup_ith h (by omega) hi e; omega

/-! ### A list without its repetitions -/
def dd (l : List Id) : Nat → List Id
  | 0 => []
  | k + 1 => if ith l k ∈ dd l k then dd l k else dd l k ++ [ith l k]
def uniq (l : List Id) : List Id := dd l l.length
theorem dd_nodup (l : List Id) : ∀ k, (dd l k).Nodup
  | 0 => List.nodup_nil
  | k + 1 => by
    unfold dd
    split
    · exact dd_nodup l k
    · rename_i h
      refine List.nodup_append.2 ⟨dd_nodup l k, by simp, ?_⟩
      intro a ha b hb e
      simp at hb
      subst hb; subst e
      exact h ha
theorem dd_succ (l : List Id) (k : Nat) : dd l (k + 1) = if ith l k ∈ dd l k then dd l k else dd l k ++ [ith l k] := rfl
theorem mem_dd (l : List Id) (x : Id) : ∀ k, x ∈ dd l k ↔ ∃ j, j < k ∧ ith l j = x
  | 0 => by simp [dd]
  | k + 1 => by
    have ih := mem_dd l x k
    have hs : (x ∈ dd l (k + 1)) ↔ (x ∈ dd l k ∨ ith l k = x) := by
      rw [dd_succ]
      split
      · rename_i h
        constructor
        · exact fun hx => .inl hx
        · rintro (hx | rfl)
          · exact hx
          · exact h
      · rw [List.mem_append, List.mem_singleton, eq_comm (a := x)]
    rw [hs, ih]
    constructor
    · rintro (⟨j, hj, e⟩ | e)
      · exact ⟨j, by omega, e⟩
      · exact ⟨k, by omega, e⟩
    · rintro ⟨j, hj, e⟩
      by_cases h : j = k
      · subst h; exact .inr e
      · exact .inl ⟨j, by omega, e⟩
theorem dd_len (l : List Id) : ∀ k, (dd l k).length ≤ k
  | 0 => by simp [dd]
  | k + 1 => by
    have := dd_len l k
    unfold dd
    split <;> simp <;> omega
theorem mem_uniq {l : List Id} {x : Id} : x ∈ uniq l ↔ x ∈ l := by
  unfold uniq
  rw [mem_dd]
  constructor
  · rintro ⟨j, hj, rfl⟩; exact ith_mem hj
  · intro h; exact mem_ith h
theorem uniq_nodup (l : List Id) : (uniq l).Nodup := dd_nodup l _
theorem uniq_len (l : List Id) : (uniq l).length ≤ l.length := dd_len l _
theorem take_snoc {l : List Id} {k : Nat} (h : k < l.length) : l.take (k + 1) = l.take k ++ [ith l k] := by
  unfold ith
  rw [List.take_add_one, List.getD_eq_getElem?_getD, List.getElem?_eq_getElem h]
  rfl
theorem dd_self {l : List Id} (h : l.Nodup) : ∀ k, k ≤ l.length → dd l k = l.take k
  | 0, _ => by simp [dd]
  | k + 1, hk => by
    unfold dd
    rw [if_neg, dd_self h k (by omega), take_snoc (by omega)]
    rw [mem_dd]
    rintro ⟨j, hj, e⟩
    have := nodup_ith h (by omega) (by omega) e
    omega
theorem uniq_self {l : List Id} (h : l.Nodup) : uniq l = l := by
  unfold uniq
  rw [dd_self h _ (Nat.le_refl _), List.take_length]

/-! ### In the order of the base? -/
def os (base l : List Id) : Nat → Option Int
  | 0 => some (-1)
  | k + 1 => match os base l k with
    | none => none
    | some last => if idx base (ith l k) < 0 then some last else if idx base (ith l k) < last then none else some (idx base (ith l k))
def ordB (base l : List Id) : Bool := (os base l l.length).isSome
theorem os_none {base l : List Id} {k : Nat} (h : os base l k = none) : ∀ m, k ≤ m → os base l m = none
  | 0, hm => by obtain rfl : k = 0 := by omega
                exact h
  | m + 1, hm => by
    by_cases e : k = m + 1
    · subst e; exact h
    · unfold os
      rw [os_none h m (by omega)]
theorem os_bd {base l : List Id} : ∀ {k : Nat} {last : Int}, os base l k = some last → -1 ≤ last ∧ last < base.length
  | 0, last, h => by simp [os] at h; omega
  | k + 1, last, h => by
    unfold os at h
    have hb := idx_bd base (ith l k)
    split at h
    · cases h
    · rename_i m hm
      have := os_bd hm
      split at h
      · cases h; exact this
      · split at h
        · cases h
        · cases h; exact hb

/-! ### The merged sequence -/
def mf (base main other : List Id) : Nat → List Id
  | 0 => []
  | k + 1 => if ith main k ∉ base ∨ ith main k ∈ other then mf base main other k ++ [ith main k] else mf base main other k
def pos (out other : List Id) : Nat → Nat
  | 0 => 0
  | k + 1 => if ith other k ∈ out then idxN out (ith other k) + 1 else pos out other k
def insAt (l : List Id) (p : Nat) (x : Id) : List Id := l.take p ++ x :: l.drop p
def sq (base main other : List Id) : Nat → List Id
  | 0 => mf base main other main.length
  | i + 1 => if ith other i ∈ base ∨ ith other i ∈ main then sq base main other i else insAt (sq base main other i) (pos (sq base main other i) other i) (ith other i)
def seqMO (base main other : List Id) : List Id := sq base main other other.length
def seqU (base left right : List Id) : List Id := if ordB base left = true ∧ ordB base right = false then seqMO base right left else seqMO base left right
def seqF (base left right : List Id) : List Id := seqU (uniq base) (uniq left) (uniq right)

theorem pos_le (out other : List Id) : ∀ k, pos out other k ≤ out.length
  | 0 => Nat.zero_le _
  | k + 1 => by
    unfold pos
    split
    · rename_i h; exact idxN_lt h
    · exact pos_le out other k
theorem mem_insAt {l : List Id} {p : Nat} {x y : Id} : y ∈ insAt l p x ↔ y ∈ l ∨ y = x := by
  unfold insAt
  have : y ∈ l ↔ y ∈ l.take p ∨ y ∈ l.drop p := by rw [← List.mem_append, List.take_append_drop]
  rw [this]
  simp only [List.mem_append, List.mem_cons]
  constructor
  · rintro (h | h | h)
    · exact .inl (.inl h)
    · exact .inr h
    · exact .inl (.inr h)
  · rintro ((h | h) | h)
    · exact .inl h
    · exact .inr (.inr h)
    · exact .inr (.inl h)
theorem insAt_len (l : List Id) (p : Nat) (x : Id) : (insAt l p x).length = l.length + 1 := by
  unfold insAt
  simp [List.length_take, List.length_drop]
  omega
theorem nodup_insAt {l : List Id} {p : Nat} {x : Id} (h : l.Nodup) (hx : x ∉ l) : (insAt l p x).Nodup := by
  have hp : (insAt l p x).Perm (x :: l) := by
    unfold insAt
    have h1 : (l.take p ++ x :: l.drop p).Perm (x :: (l.take p ++ l.drop p)) := List.perm_middle
    rwa [List.take_append_drop] at h1
  exact hp.nodup_iff.2 (List.nodup_cons.2 ⟨hx, h⟩)

theorem mem_mf (base main other : List Id) (x : Id) : ∀ k, x ∈ mf base main other k ↔ ∃ j, j < k ∧ ith main j = x ∧ (x ∉ base ∨ x ∈ other)
  | 0 => by simp [mf]
  | k + 1 => by
    have ih := mem_mf base main other x k
    unfold mf
    split
    · rename_i h
      rw [List.mem_append, ih]
      constructor
      · rintro (⟨j, hj, e, c⟩ | e)
        · exact ⟨j, by omega, e, c⟩
        · simp at e; subst e; exact ⟨k, by omega, rfl, h⟩
      · rintro ⟨j, hj, e, c⟩
        by_cases hjk : j = k
        · subst hjk; exact .inr (by simp [← e])
        · exact .inl ⟨j, by omega, e, c⟩
    · rename_i h
      rw [ih]
      constructor
      · rintro ⟨j, hj, e, c⟩; exact ⟨j, by omega, e, c⟩
      · rintro ⟨j, hj, e, c⟩
        by_cases hjk : j = k
        · subst hjk; exact absurd (e ▸ c) h
        · exact ⟨j, by omega, e, c⟩
theorem mf_nodup {base main other : List Id} (hm : main.Nodup) : ∀ k, k ≤ main.length → (mf base main other k).Nodup
  | 0, _ => List.nodup_nil
  | k + 1, hk => by
    have ih := mf_nodup (base := base) (other := other) hm k (by omega)
    unfold mf
    split
    · refine List.nodup_append.2 ⟨ih, by simp, ?_⟩
      intro a ha b hb e
      simp at hb
      subst hb; subst e
      obtain ⟨j, hj, e, _⟩ := (mem_mf base main other _ k).1 ha
      have := nodup_ith hm (by omega) (by omega) e
      omega
    · exact ih
theorem mf_len (base main other : List Id) : ∀ k, (mf base main other k).length ≤ k
  | 0 => Nat.le_refl _
  | k + 1 => by
    have := mf_len base main other k
    unfold mf
    split <;> simp <;> omega
theorem mem_sq (base main other : List Id) (x : Id) : ∀ i, x ∈ sq base main other i ↔ (x ∈ main ∧ (x ∉ base ∨ x ∈ other)) ∨ (∃ j, j < i ∧ ith other j = x ∧ x ∉ base ∧ x ∉ main)
  | 0 => by
    unfold sq
    rw [mem_mf]
    constructor
    · rintro ⟨j, hj, e, c⟩; exact .inl ⟨e ▸ ith_mem hj, c⟩
    · rintro (⟨h, c⟩ | ⟨j, hj, _⟩)
      · obtain ⟨j, hj, e⟩ := mem_ith h; exact ⟨j, hj, e, c⟩
      · omega
  | i + 1 => by
    have ih := mem_sq base main other x i
    unfold sq
    split
    · rename_i h
      rw [ih]
      constructor
      · rintro (h1 | ⟨j, hj, e, c⟩)
        · exact .inl h1
        · exact .inr ⟨j, by omega, e, c⟩
      · rintro (h1 | ⟨j, hj, e, c1, c2⟩)
        · exact .inl h1
        · by_cases hji : j = i
          · subst hji; subst e; exact absurd h (fun hh => hh.elim c1 c2)
          · exact .inr ⟨j, by omega, e, c1, c2⟩
    · rename_i h
      rw [mem_insAt, ih]
      constructor
      · rintro ((h1 | ⟨j, hj, e, c⟩) | e)
        · exact .inl h1
        · exact .inr ⟨j, by omega, e, c⟩
        · subst e; exact .inr ⟨i, by omega, rfl, fun hh => h (.inl hh), fun hh => h (.inr hh)⟩
      · rintro (h1 | ⟨j, hj, e, c⟩)
        · exact .inl (.inl h1)
        · by_cases hji : j = i
          · subst hji; exact .inr e.symm
          · exact .inl (.inr ⟨j, by omega, e, c⟩)
theorem sq_nodup {base main other : List Id} (hm : main.Nodup) (ho : other.Nodup) : ∀ i, i ≤ other.length → (sq base main other i).Nodup
  | 0, _ => mf_nodup hm _ (Nat.le_refl _)
  | i + 1, hi => by
    have ih := sq_nodup (base := base) hm ho i (by omega)
    unfold sq
    split
    · exact ih
    · rename_i h
      refine nodup_insAt ih fun hx => ?_
      rcases (mem_sq base main other _ i).1 hx with ⟨h1, _⟩ | ⟨j, hj, e, _⟩
      · exact h (.inr h1)
      · have := nodup_ith ho (by omega) (by omega) e
        omega
theorem sq_len (base main other : List Id) : ∀ i, (sq base main other i).length ≤ main.length + i
  | 0 => mf_len base main other _
  | i + 1 => by
    have := sq_len base main other i
    unfold sq
    split
    · omega
    · rw [insAt_len]; omega
theorem seqF_nodup (base left right : List Id) : (seqF base left right).Nodup := by
  unfold seqF seqU
  split
  · exact sq_nodup (uniq_nodup _) (uniq_nodup _) _ (Nat.le_refl _)
  · exact sq_nodup (uniq_nodup _) (uniq_nodup _) _ (Nat.le_refl _)
theorem mem_seqMO {base main other : List Id} {x : Id} : x ∈ seqMO base main other ↔ (x ∈ main ∧ x ∈ other) ∨ ((x ∈ main ∨ x ∈ other) ∧ x ∉ base) := by
  unfold seqMO
  rw [mem_sq]
  have : (∃ j, j < other.length ∧ ith other j = x ∧ x ∉ base ∧ x ∉ main) ↔ x ∈ other ∧ x ∉ base ∧ x ∉ main := by
    constructor
    · rintro ⟨j, hj, rfl, c⟩; exact ⟨ith_mem hj, c⟩
    · rintro ⟨h, c⟩; obtain ⟨j, hj, e⟩ := mem_ith h; exact ⟨j, hj, e, c⟩
  rw [this]
  by_cases h1 : x ∈ main <;> by_cases h2 : x ∈ other <;> by_cases h3 : x ∈ base <;> simp [h1, h2, h3]
theorem mem_seqF {base left right : List Id} {x : Id} : x ∈ seqF base left right ↔ (x ∈ left ∧ x ∈ right) ∨ ((x ∈ left ∨ x ∈ right) ∧ x ∉ base) := by
  unfold seqF seqU
  split
  · rw [mem_seqMO, mem_uniq, mem_uniq, mem_uniq, and_comm, or_comm (a := x ∈ right)]
  · rw [mem_seqMO, mem_uniq, mem_uniq, mem_uniq]
theorem seqF_len (base left right : List Id) : (seqF base left right).length ≤ left.length + right.length := by
  have h1 := uniq_len left
  have h2 := uniq_len right
  unfold seqF seqU seqMO
  split
  · have := sq_len (uniq base) (uniq right) (uniq left) (uniq left).length; omega
  · have := sq_len (uniq base) (uniq left) (uniq right) (uniq right).length; omega
end Go.Proofs.YtacoeahipklibaaDoor
