/- The model's text. -/
import Derived.Test.YteoghladllohjaaGreatDoorM4
namespace Go.Proofs.YteoghladllohjaaGreatDoor
open Go.RowKit Go.Sort

/-- The text of the first k tones. -/
def textK (l : List Tone) : Nat → List UInt8
  | 0 => []
  | k + 1 => if k = 0 then toneText (nth l 0) else textK l k ++ 32 :: toneText (nth l k)
theorem joinF_snoc (x : List UInt8) : ∀ (l : List (List UInt8)), l ≠ [] → joinF (l ++ [x]) = joinF l ++ 32 :: x
  | [], h => absurd rfl h
  | [y], _ => rfl
  | y :: z :: l, _ => by
    have := joinF_snoc x (z :: l) (by simp)
    rw [List.cons_append, List.cons_append, joinF, joinF, ← List.cons_append, this]
    simp
theorem take_snoc {l : List Tone} {k : Nat} (h : k < l.length) : l.take (k + 1) = l.take k ++ [nth l k] := by
  unfold nth
  rw [List.take_add_one, List.getD_eq_getElem?_getD, List.getElem?_eq_getElem h]
  rfl
theorem textK_eq (l : List Tone) : ∀ k, k ≤ l.length → textK l k = textF (l.take k)
  | 0, _ => rfl
  | k + 1, h => by
    unfold textK textF
    rw [take_snoc (by omega), List.map_append]
    by_cases hk : k = 0
    · subst hk
      simp [joinF]
    · rw [if_neg hk, List.map_singleton, joinF_snoc _ _ (by
        intro e
        have h1 : (List.map toneText (List.take k l)).length = 0 := by rw [e]; rfl
        rw [List.length_map, List.length_take] at h1
        omega), textK_eq l k (by omega)]
      rfl
theorem textK_all (l : List Tone) : textK l l.length = textF l := by
  rw [textK_eq l _ (Nat.le_refl _), List.take_length]
theorem tone_len {t : Tone} (h : toneErr t = 0) : (toneText t).length ≤ 50 := by
  obtain ⟨h1, h2, h3, h4⟩ := toneErr_zero h
  have a := itoa_len t.len (by omega) (by omega)
  unfold toneText
  rw [List.length_append, List.length_cons]
  cases hr : t.rest
  · obtain ⟨_, _, _, _, p5, p6, _, _⟩ := pitchCheckF_in (h4 hr)
    have b := itoa_len t.p.oc (by omega) (by omega)
    have c := signF_len t.p.al
    simp [nameF]
    omega
  · simp; omega
theorem textK_len {l : List Tone} (h : ∀ t ∈ l, toneErr t = 0) : ∀ k, k ≤ l.length → (textK l k).length ≤ 60 * k
  | 0, _ => Nat.le_refl _
  | k + 1, hk => by
    have ih := textK_len h k (by omega)
    have ht := tone_len (h _ (nth_mem (l := l) (k := k) (by omega)))
    unfold textK
    by_cases h0 : k = 0
    · subst h0; rw [if_pos rfl]; omega
    · rw [if_neg h0, List.length_append, List.length_cons]; omega

theorem addS (w : World) (a b : ByteArray) (ha : a.size ≤ 8000) (hb : b.size ≤ 8000) : (Op.stringOp .add a b).run Tryz.prog w = .ok (.string (a ++ b)) w :=
  run_string_add (P := Tryz.prog) w a b (by omega) (by omega)
theorem textK_zero (l : List Tone) : bs (toneText (nth l 0)) = bs (textK l 1) := rfl
theorem textK_succ (l : List Tone) {k : Nat} (h : k ≠ 0) : bs (textK l k) ++ ⟨#[32]⟩ ++ bs (toneText (nth l k)) = bs (textK l (k + 1)) := by
  rw [textK, if_neg h, show (⟨#[32]⟩ : ByteArray) = bs [32] from rfl, bs_append, bs_append]
  simp
theorem tone_bs (t : Tone) (N : List UInt8) (h : (if t.rest then [114] else nameF t.p) = N) : bs N ++ ⟨#[58]⟩ ++ bs (Lib.itoa t.len) = bs (toneText t) := by
  rw [toneText, h, show (⟨#[58]⟩ : ByteArray) = bs [58] from rfl, bs_append, bs_append]
  simp
theorem ba_assoc (a b c : ByteArray) : a ++ (b ++ c) = a ++ b ++ c := by
  apply ByteArray.ext; simp [Array.append_assoc]
theorem ba_nil (a : ByteArray) : (⟨#[]⟩ : ByteArray) ++ a = a := by
  apply ByteArray.ext; simp

end Go.Proofs.YteoghladllohjaaGreatDoor
