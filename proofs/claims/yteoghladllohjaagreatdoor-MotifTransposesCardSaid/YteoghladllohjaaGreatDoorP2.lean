/- Parts of a text, and what is read of them, in plain Lean. -/
import Derived.Test.YteoghladllohjaaGreatDoorP1
import Derived.Lib.IndexMore
namespace Go.Proofs.YteoghladllohjaaGreatDoor

theorem idx_hit (c : UInt8) (l : List UInt8) : Lib.index (c :: l) [c] = 0 := by simp [Lib.index, List.isPrefixOf]
theorem idx_skip {b c : UInt8} (h : c ≠ b) (l : List UInt8) : Lib.index (b :: l) [c] = if Lib.index l [c] == -1 then -1 else Lib.index l [c] + 1 := by
  have : (c == b) = false := by simpa using h
  rw [Lib.index]
  simp [List.isPrefixOf, this]
theorem idx_none {c : UInt8} : ∀ {l : List UInt8}, c ∉ l → Lib.index l [c] = -1
  | [], _ => by simp [Lib.index]
  | b :: l, h => by
    rw [idx_skip (fun e => h (by simp [e])), idx_none (fun e => h (by simp [e]))]
    rfl
theorem idx_append {c : UInt8} : ∀ {x : List UInt8} (y : List UInt8), c ∉ x → Lib.index (x ++ c :: y) [c] = x.length
  | [], y, _ => by rw [List.nil_append, idx_hit]; rfl
  | b :: x, y, h => by
    rw [List.cons_append, idx_skip (fun e => h (by simp [e])), idx_append y (fun e => h (by simp [e]))]
    have : ((x.length : Int) == -1) = false := by simp
    rw [this]
    simp
theorem idx_form (c : UInt8) (l : List UInt8) : (Lib.index l [c] = -1 ∧ c ∉ l) ∨ ∃ x y, l = x ++ c :: y ∧ c ∉ x ∧ Lib.index l [c] = x.length := by
  induction l with
  | nil => exact .inl ⟨by simp [Lib.index], by simp⟩
  | cons b l ih =>
    by_cases e : c = b
    · subst e
      exact .inr ⟨[], l, rfl, by simp, by rw [idx_hit]; rfl⟩
    · rcases ih with ⟨h1, h2⟩ | ⟨x, y, rfl, h2, h3⟩
      · exact .inl ⟨by rw [idx_skip e, h1]; rfl, by simp [e, h2]⟩
      · exact .inr ⟨b :: x, y, rfl, by simp [e, h2], by rw [← List.cons_append]; exact idx_append y (by simp [e, h2])⟩

/-- The parts of a text between spaces. -/
def splitL : List UInt8 → List (List UInt8)
  | [] => [[]]
  | c :: s => if c = 32 then [] :: splitL s else match splitL s with
    | [] => [[c]]
    | p :: ps => (c :: p) :: ps
theorem splitL_ne (s : List UInt8) : splitL s ≠ [] := by
  cases s with
  | nil => simp [splitL]
  | cons c s =>
    unfold splitL
    split
    · simp
    · split <;> simp
theorem splitL_one : ∀ {x : List UInt8}, (32 : UInt8) ∉ x → splitL x = [x]
  | [], _ => rfl
  | c :: x, h => by
    unfold splitL
    rw [if_neg (fun e => h (by simp [e])), splitL_one (fun e => h (by simp [e]))]
theorem splitL_cons : ∀ {x : List UInt8} (y : List UInt8), (32 : UInt8) ∉ x → splitL (x ++ 32 :: y) = x :: splitL y
  | [], y, _ => by rw [List.nil_append, splitL, if_pos rfl]
  | c :: x, y, h => by
    rw [List.cons_append, splitL, if_neg (fun e => h (by simp [e])), splitL_cons y (fun e => h (by simp [e]))]
theorem splitL_join : ∀ {l : List (List UInt8)}, l ≠ [] → (∀ x ∈ l, (32 : UInt8) ∉ x) → splitL (joinF l) = l
  | [], h, _ => absurd rfl h
  | [x], _, h => splitL_one (h x (by simp))
  | x :: y :: l, _, h => by
    rw [joinF, splitL_cons _ (h x (by simp)), splitL_join (by simp) (fun z hz => h z (by simp [hz]))]
theorem splitL_len : ∀ (s : List UInt8), (splitL s).length ≤ s.length + 1
  | [] => by simp [splitL]
  | c :: s => by
    have := splitL_len s
    unfold splitL
    split
    · simp; omega
    · split
      · simp
      · rename_i p ps hp
        rw [hp] at this
        simp at this ⊢; omega

/-! ### Numerals -/
theorem dec_bytes : ∀ (u : Nat) (b : UInt8), b ∈ Lib.decDigits u → 48 ≤ b.toNat ∧ b.toNat ≤ 57 := by
  intro u
  induction u using Nat.strongRecOn with
  | _ u ih =>
    intro b hb
    have one : ∀ d, d < 10 → (UInt8.ofNat (48 + d)).toNat = 48 + d := fun d hd => by
      rw [UInt8.toNat_ofNat']; omega
    rw [Lib.decDigits] at hb
    split at hb
    · rename_i h
      have hb := List.mem_singleton.1 hb
      subst hb
      rw [one u h]; omega
    · rename_i h
      rcases List.mem_append.1 hb with hb | hb
      · exact ih (u / 10) (by omega) b hb
      · have hb := List.mem_singleton.1 hb
        subst hb
        rw [one (u % 10) (by omega)]; omega
theorem dec_ne (u : Nat) : Lib.decDigits u ≠ [] := by
  rw [Lib.decDigits]
  split <;> simp
theorem itoa_bytes (z : Int) (b : UInt8) (h : b ∈ Lib.itoa z) : b.toNat = 45 ∨ (48 ≤ b.toNat ∧ b.toNat ≤ 57) := by
  unfold Lib.itoa at h
  split at h
  · rcases List.mem_cons.1 h with rfl | h
    · exact .inl rfl
    · exact .inr (dec_bytes _ _ h)
  · exact .inr (dec_bytes _ _ h)
theorem parse_snoc (c : UInt8) : ∀ (l : List UInt8) (acc : Nat), Lib.parseUint10 acc (l ++ [c]) = match Lib.parseUint10 acc l with
    | .ok v => Lib.parseUint10 v [c]
    | Lib.NumEnd.syntax => Lib.NumEnd.syntax
    | .range => .range
  | [], acc => by simp [Lib.parseUint10]
  | d :: l, acc => by
    rw [List.cons_append, Lib.parseUint10, Lib.parseUint10]
    split
    · split
      · rfl
      · split
        · rfl
        · exact parse_snoc c l _
    · rfl
theorem parse_dec : ∀ u : Nat, u < 1000000000000000000 → Lib.parseUint10 0 (Lib.decDigits u) = .ok u := by
  intro u
  induction u using Nat.strongRecOn with
  | _ u ih =>
    intro hu
    have one : ∀ d, d < 10 → (UInt8.ofNat (48 + d)).toNat = 48 + d := fun d hd => by
      rw [UInt8.toNat_ofNat']; omega
    rw [Lib.decDigits]
    split
    · rename_i h
      simp only [Lib.parseUint10]
      rw [one u h, if_pos ⟨by omega, by omega⟩, if_neg (by omega), if_neg (by omega)]
      congr 1; omega
    · rename_i h
      rw [parse_snoc, ih (u / 10) (by omega) (by omega)]
      simp only [Lib.parseUint10]
      rw [one (u % 10) (by omega), if_pos ⟨by omega, by omega⟩, if_neg (by omega), if_neg (by omega)]
      congr 1; omega
theorem atoi_itoa (u : Nat) (hu : u < 1000000000000000000) : Lib.atoiAll (Lib.itoa u) = .ok (u : Int) := by
  rw [Lib.itoa_nonneg]
  have hp := parse_dec u hu
  have hb := dec_bytes u
  have hne := dec_ne u
  generalize Lib.decDigits u = l at *
  cases l with
  | nil => exact absurd rfl hne
  | cons c r =>
    have hc := hb c (by simp)
    unfold Lib.atoiAll
    simp only
    rw [if_neg (by omega)]
    unfold Lib.parseMag
    rw [if_neg (by simp), hp]
    have h45 : ¬ c.toNat = 45 := by omega
    simp only [h45, not_false_eq_true, true_and, false_and, if_false]
    rw [if_neg (by omega)]
end Go.Proofs.YteoghladllohjaaGreatDoor
