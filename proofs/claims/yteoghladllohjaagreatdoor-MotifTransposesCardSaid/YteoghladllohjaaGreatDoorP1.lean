/- Tones, their errors and their texts, in plain Lean. -/
import Derived.Lib.ItoaNum
import Derived.Lib.ItoaLen
import Derived.Lib.AtoiAll
namespace Go.Proofs.YteoghladllohjaaGreatDoor

structure Pit where
  (st al oc : Int)
deriving DecidableEq
structure Tone where
  len : Int
  p : Pit
  rest : Bool
deriving DecidableEq
def pit0 : Pit := ⟨0, 0, 0⟩
def toneZ : Tone := ⟨0, pit0, false⟩
def nth (l : List Tone) (k : Nat) : Tone := l.getD k toneZ

def semiF (n : Int) : Int := if n = 0 then 0 else if n = 1 then 2 else if n = 2 then 4 else if n = 3 then 5 else if n = 4 then 7 else if n = 5 then 9 else 11
theorem semiF_bd (n : Int) : 0 ≤ semiF n ∧ semiF n ≤ 11 := by unfold semiF; (repeat' split) <;> omega
def numberF (s a o : Int) : Int := 12 * (o + 1) + semiF s + a
def pitchCheckF (s a o : Int) : Int :=
  if s < 0 ∨ 6 < s ∨ a < -2 ∨ 2 < a ∨ o < -1 ∨ 9 < o then 18 else if numberF s a o < 0 ∨ 127 < numberF s a o then 18 else 0
theorem numberF_bd (s a o : Int) (h3 : -2 ≤ a) (h4 : a ≤ 2) (h5 : -1 ≤ o) (h6 : o ≤ 9) : -2 ≤ numberF s a o ∧ numberF s a o ≤ 133 := by
  have := semiF_bd s; unfold numberF; omega
theorem pitchCheckF_out {s a o : Int} (h : s < 0 ∨ 6 < s ∨ a < -2 ∨ 2 < a ∨ o < -1 ∨ 9 < o) : pitchCheckF s a o = 18 := by unfold pitchCheckF; rw [if_pos h]
theorem pitchCheckF_in {s a o : Int} (h : pitchCheckF s a o = 0) : 0 ≤ s ∧ s ≤ 6 ∧ -2 ≤ a ∧ a ≤ 2 ∧ -1 ≤ o ∧ o ≤ 9 ∧ 0 ≤ numberF s a o ∧ numberF s a o ≤ 127 := by
  unfold pitchCheckF at h
  split at h
  · omega
  · split at h <;> omega
theorem pitchCheckF_or (s a o : Int) : pitchCheckF s a o = 0 ∨ pitchCheckF s a o = 18 := by
  unfold pitchCheckF; split
  · exact .inr rfl
  · split
    · exact .inr rfl
    · exact .inl rfl

/-- The error of a tone: 2 (range), 3 (form), 18 (pitch), 0 (none). -/
def toneErr (t : Tone) : Int :=
  if t.len < 1 ∨ 123863040 < t.len then 2 else if t.rest = true ∧ t.p ≠ pit0 then 3 else if t.rest = false ∧ pitchCheckF t.p.st t.p.al t.p.oc ≠ 0 then 18 else 0
def firstErr : List Tone → Int
  | [] => 0
  | t :: l => if toneErr t = 0 then firstErr l else toneErr t
def checkL (l : List Tone) : Int := if l.length = 0 then 4 else if 64 < l.length then 9 else firstErr l

theorem firstErr_drop {l : List Tone} {k : Nat} (h : k < l.length) : firstErr (l.drop k) = if toneErr (nth l k) = 0 then firstErr (l.drop (k + 1)) else toneErr (nth l k) := by
  unfold nth
  rw [List.drop_eq_getElem_cons h, List.getD_eq_getElem?_getD, List.getElem?_eq_getElem h]
  rfl
theorem nth_mem {l : List Tone} {k : Nat} (h : k < l.length) : nth l k ∈ l := by
  unfold nth; rw [List.getD_eq_getElem?_getD, List.getElem?_eq_getElem h]; exact List.getElem_mem h
theorem firstErr_zero {l : List Tone} (h : firstErr l = 0) : ∀ t ∈ l, toneErr t = 0 := by
  induction l with
  | nil => intro t ht; cases ht
  | cons a l ih =>
    unfold firstErr at h
    split at h
    · rename_i h0
      intro t ht
      rcases List.mem_cons.1 ht with rfl | ht
      · exact h0
      · exact ih h t ht
    · rename_i h0; exact absurd h h0
theorem checkL_zero {l : List Tone} (h : checkL l = 0) : 0 < l.length ∧ l.length ≤ 64 ∧ ∀ t ∈ l, toneErr t = 0 := by
  unfold checkL at h
  split at h
  · omega
  · split at h
    · omega
    · exact ⟨by omega, by omega, firstErr_zero h⟩
theorem toneErr_zero {t : Tone} (h : toneErr t = 0) : 1 ≤ t.len ∧ t.len ≤ 123863040 ∧ (t.rest = true → t.p = pit0) ∧ (t.rest = false → pitchCheckF t.p.st t.p.al t.p.oc = 0) := by
  unfold toneErr at h
  split at h
  · omega
  · split at h
    · omega
    · split at h
      · omega
      · rename_i h1 h2 h3
        refine ⟨by omega, by omega, fun hr => ?_, fun hr => ?_⟩
        · exact Decidable.byContradiction fun hp => h2 ⟨hr, hp⟩
        · exact Decidable.byContradiction fun hp => h3 ⟨hr, hp⟩

/-! ### Texts -/
def letterF (s : Int) : UInt8 := if s = 0 then 67 else if s = 1 then 68 else if s = 2 then 69 else if s = 3 then 70 else if s = 4 then 71 else if s = 5 then 65 else 66
def signF (a : Int) : List UInt8 := if a = -2 then [98, 98] else if a = -1 then [98] else if a = 0 then [] else if a = 1 then [35] else [35, 35]
def nameF (p : Pit) : List UInt8 := letterF p.st :: (signF p.al ++ Lib.itoa p.oc)
def toneText (t : Tone) : List UInt8 := (if t.rest then [114] else nameF t.p) ++ 58 :: Lib.itoa t.len
def joinF : List (List UInt8) → List UInt8
  | [] => []
  | [x] => x
  | x :: y :: l => x ++ 32 :: joinF (y :: l)
def textF (l : List Tone) : List UInt8 := joinF (l.map toneText)
end Go.Proofs.YteoghladllohjaaGreatDoor
