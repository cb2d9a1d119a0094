/- What is read of a name and of a tone's text, in plain Lean. -/
import Derived.Test.YteoghladllohjaaGreatDoorP2
namespace Go.Proofs.YteoghladllohjaaGreatDoor

/-- The text behind a sign, or none. -/
def cutP (s p : List UInt8) : Option (List UInt8) := if p.isPrefixOf s then some (s.drop p.length) else none
/-- The octave behind a sign, where it is one. -/
def octF (rest sign : List UInt8) : Option Int :=
  match cutP rest sign with
  | none => none
  | some o => match Lib.atoiAll o with
    | .ok n => if -1 ≤ n ∧ n ≤ 9 ∧ Lib.itoa n = o then some n else none
    | _ => none
def stepF (c : UInt8) : Int := if c = 67 then 0 else if c = 68 then 1 else if c = 69 then 2 else if c = 70 then 3 else if c = 71 then 4 else if c = 65 then 5 else if c = 66 then 6 else -1
def signL : List (List UInt8) := [[98, 98], [98], [], [35], [35, 35]]
/-- From the k-th sign on. -/
def altF (st : Int) (rest : List UInt8) : Nat → Nat → Pit
  | 0, _ => pit0
  | n + 1, k => match octF rest (signL.getD k []) with
    | some o => if pitchCheckF st ((k : Int) - 2) o = 0 then ⟨st, (k : Int) - 2, o⟩ else pit0
    | none => altF st rest n (k + 1)
/-- The pitch that is read of a name; pit0 where it is none. -/
def parseP : List UInt8 → Pit
  | [] => pit0
  | c :: rest => if stepF c < 0 then pit0 else altF (stepF c) rest 5 0
/-- The tone that is read of a part, unless its number is none. -/
def parseT (part : List UInt8) : Option Tone :=
  match Lib.atoiAll (Lib.cut part [58]).2.1 with
  | .ok n => some ⟨n, if (Lib.cut part [58]).1 = [114] then pit0 else parseP (Lib.cut part [58]).1, decide ((Lib.cut part [58]).1 = [114])⟩
  | _ => none

/-! ### A name is read again -/
theorem itoa_oct {o : Int} (h1 : -1 ≤ o) (h2 : o ≤ 9) : Lib.itoa o = if o = -1 then [45, 49] else [UInt8.ofNat (48 + o.toNat)] := by
  by_cases h : o = -1
  · subst h
    rw [if_pos rfl]
    unfold Lib.itoa
    rw [if_pos (by omega), show (-1 : Int).natAbs = 1 from rfl, Lib.decDigits_one (by omega)]
    rfl
  · rw [if_neg h]
    unfold Lib.itoa
    rw [if_neg (by omega), Lib.decDigits_one (by omega)]
theorem octs {o : Int} (h1 : -1 ≤ o) (h2 : o ≤ 9) : o = -1 ∨ o = 0 ∨ o = 1 ∨ o = 2 ∨ o = 3 ∨ o = 4 ∨ o = 5 ∨ o = 6 ∨ o = 7 ∨ o = 8 ∨ o = 9 := by omega
theorem atoi_oct {o : Int} (h1 : -1 ≤ o) (h2 : o ≤ 9) : Lib.atoiAll (Lib.itoa o) = .ok o := by
  rw [itoa_oct h1 h2]
  rcases octs h1 h2 with rfl | rfl | rfl | rfl | rfl | rfl | rfl | rfl | rfl | rfl | rfl <;> decide
/-- Behind a sign that is not its own no octave is read. -/
theorem octF_own {o : Int} (h1 : -1 ≤ o) (h2 : o ≤ 9) (s : List UInt8) : octF (s ++ Lib.itoa o) s = some o := by
  unfold octF cutP
  rw [if_pos (by simp), List.drop_left]
  simp only
  rw [atoi_oct h1 h2]
  simp [h1, h2]
theorem head_oct {o : Int} (h1 : -1 ≤ o) (h2 : o ≤ 9) : ∃ c r, Lib.itoa o = c :: r ∧ (c.toNat = 45 ∨ (48 ≤ c.toNat ∧ c.toNat ≤ 57)) := by
  rw [itoa_oct h1 h2]
  rcases octs h1 h2 with rfl | rfl | rfl | rfl | rfl | rfl | rfl | rfl | rfl | rfl | rfl
  · exact ⟨45, [49], rfl, .inl rfl⟩
  all_goals exact ⟨_, [], rfl, .inr (by decide)⟩
theorem atoi_bad {c : UInt8} (r : List UInt8) (h : ¬ (c.toNat = 43 ∨ c.toNat = 45)) (h2 : ¬ (48 ≤ c.toNat ∧ c.toNat ≤ 57)) : Lib.atoiAll (c :: r) = Lib.NumEnd.syntax := by
  unfold Lib.atoiAll
  simp only
  rw [if_neg h]
  unfold Lib.parseMag
  rw [if_neg (by simp), Lib.parseUint10, if_neg h2]
theorem octF_noprefix {rest s : List UInt8} (h : s.isPrefixOf rest = false) : octF rest s = none := by
  unfold octF cutP; rw [h]; rfl
theorem octF_badnum {s r : List UInt8} {c : UInt8} (h : ¬ (c.toNat = 43 ∨ c.toNat = 45)) (h2 : ¬ (48 ≤ c.toNat ∧ c.toNat ≤ 57)) : octF (s ++ c :: r) s = none := by
  unfold octF cutP
  rw [if_pos (by simp), List.drop_left]
  simp only
  rw [atoi_bad r h h2]
theorem altF_own {st al o : Int} (ha1 : -2 ≤ al) (ha2 : al ≤ 2) (h1 : -1 ≤ o) (h2 : o ≤ 9) (hp : pitchCheckF st al o = 0) : altF st (signF al ++ Lib.itoa o) 5 0 = ⟨st, al, o⟩ := by
  have own := fun s => octF_own h1 h2 s
  obtain ⟨c, r, hc, hcb⟩ := head_oct h1 h2
  have hne98 : ((98 : UInt8) == c) = false := by
    have : (98 : UInt8) ≠ c := by rintro rfl; revert hcb; decide
    simpa using this
  have hne35 : ((35 : UInt8) == c) = false := by
    have : (35 : UInt8) ≠ c := by rintro rfl; revert hcb; decide
    simpa using this
  have d35 : ¬ ((35 : UInt8).toNat = 43 ∨ (35 : UInt8).toNat = 45) := by decide
  have e35 : ¬ (48 ≤ (35 : UInt8).toNat ∧ (35 : UInt8).toNat ≤ 57) := by decide
  have n0 : ∀ t, octF ([98] ++ t) [] = none := fun t => octF_badnum (s := []) (c := 98) (r := t) (by decide) (by decide)
  rw [hc] at own ⊢
  have hal : al = -2 ∨ al = -1 ∨ al = 0 ∨ al = 1 ∨ al = 2 := by omega
  rcases hal with rfl | rfl | rfl | rfl | rfl
  · have e : signF (-2) = [98, 98] := rfl
    rw [e]
    have o0 := own [98, 98]
    simp only [altF, signL, List.getD_cons_zero, o0]
    simp [hp]
  · have e : signF (-1) = [98] := rfl
    rw [e]
    have o0 : octF ([98] ++ c :: r) [98, 98] = none := octF_noprefix (by simp [List.isPrefixOf, hne98])
    have o1 := own [98]
    simp only [altF, signL, List.getD_cons_zero, List.getD_cons_succ, o0, o1]
    simp [hp]
  · have e : signF 0 = [] := rfl
    rw [e]
    have o0 : octF ([] ++ c :: r) [98, 98] = none := octF_noprefix (by simp [List.isPrefixOf, hne98])
    have o1 : octF ([] ++ c :: r) [98] = none := octF_noprefix (by simp [List.isPrefixOf, hne98])
    have o2 := own []
    simp only [altF, signL, List.getD_cons_zero, List.getD_cons_succ, o0, o1, o2]
    simp [hp]
  · have e : signF 1 = [35] := rfl
    rw [e]
    have o0 : octF ([35] ++ c :: r) [98, 98] = none := octF_noprefix (by simp [List.isPrefixOf])
    have o1 : octF ([35] ++ c :: r) [98] = none := octF_noprefix (by simp [List.isPrefixOf])
    have o2 : octF ([35] ++ c :: r) [] = none := octF_badnum (s := []) d35 e35
    have o3 := own [35]
    simp only [altF, signL, List.getD_cons_zero, List.getD_cons_succ, o0, o1, o2, o3]
    simp [hp]
  · have e : signF 2 = [35, 35] := rfl
    rw [e]
    have o0 : octF ([35, 35] ++ c :: r) [98, 98] = none := octF_noprefix (by simp [List.isPrefixOf])
    have o1 : octF ([35, 35] ++ c :: r) [98] = none := octF_noprefix (by simp [List.isPrefixOf])
    have o2 : octF ([35, 35] ++ c :: r) [] = none := octF_badnum (s := []) (r := 35 :: c :: r) d35 e35
    have o3 : octF ([35, 35] ++ c :: r) [35] = none := octF_badnum (s := [35]) (r := c :: r) d35 e35
    have o4 := own [35, 35]
    simp only [altF, signL, List.getD_cons_zero, List.getD_cons_succ, o0, o1, o2, o3, o4]
    simp [hp]
theorem step_letter {s : Int} (h0 : 0 ≤ s) (h6 : s ≤ 6) : stepF (letterF s) = s := by
  have h : s = 0 ∨ s = 1 ∨ s = 2 ∨ s = 3 ∨ s = 4 ∨ s = 5 ∨ s = 6 := by omega
  rcases h with rfl | rfl | rfl | rfl | rfl | rfl | rfl <;> decide
theorem parseP_name {p : Pit} (h : pitchCheckF p.st p.al p.oc = 0) : parseP (nameF p) = p := by
  obtain ⟨h1, h2, h3, h4, h5, h6, _, _⟩ := pitchCheckF_in h
  unfold nameF parseP
  simp only
  rw [step_letter h1 h2, if_neg (by omega), altF_own h3 h4 h5 h6 h]

/-! ### A tone's text is read again -/
theorem letter_bd (s : Int) : 65 ≤ (letterF s).toNat ∧ (letterF s).toNat ≤ 71 := by
  unfold letterF
  repeat' split
  all_goals decide
theorem sign_bytes (a : Int) (b : UInt8) (h : b ∈ signF a) : b = 98 ∨ b = 35 := by
  unfold signF at h
  repeat' split at h
  all_goals simp at h
  all_goals first | exact .inl h | exact .inr h
theorem name_bytes (p : Pit) (b : UInt8) (h : b ∈ nameF p) : b.toNat ≠ 32 ∧ b.toNat ≠ 58 := by
  unfold nameF at h
  rcases List.mem_cons.1 h with rfl | h
  · have := letter_bd p.st; omega
  · rcases List.mem_append.1 h with h | h
    · rcases sign_bytes _ _ h with rfl | rfl <;> decide
    · have := itoa_bytes _ _ h; omega
theorem head_bytes (t : Tone) (b : UInt8) (h : b ∈ (if t.rest then [114] else nameF t.p)) : b.toNat ≠ 32 ∧ b.toNat ≠ 58 := by
  split at h
  · have h := List.mem_singleton.1 h
    subst h; decide
  · exact name_bytes _ _ h
theorem tone_nospace (t : Tone) : (32 : UInt8) ∉ toneText t := by
  intro h
  unfold toneText at h
  rcases List.mem_append.1 h with h | h
  · exact (head_bytes t _ h).1 rfl
  · rcases List.mem_cons.1 h with h | h
    · exact absurd h (by decide)
    · have := itoa_bytes _ _ h; revert this; decide
theorem tone_cut (t : Tone) : Lib.cut (toneText t) [58] = (if t.rest then [114] else nameF t.p, Lib.itoa t.len, true) := by
  have hi : Lib.index (toneText t) [58] = ((if t.rest then [114] else nameF t.p).length : Nat) := by
    unfold toneText
    exact idx_append _ fun h => (head_bytes t _ h).2 rfl
  unfold Lib.cut
  rw [hi, if_pos (by omega)]
  simp only [Int.toNat_natCast, List.length_singleton]
  unfold toneText
  rw [List.take_left]
  congr 2
  rw [← List.drop_drop, List.drop_left]
  rfl
theorem parseT_own {t : Tone} (h : toneErr t = 0) : parseT (toneText t) = some t := by
  obtain ⟨h1, h2, h3, h4⟩ := toneErr_zero h
  obtain ⟨n, hn⟩ : ∃ n : Nat, t.len = n := ⟨t.len.toNat, by omega⟩
  unfold parseT
  rw [tone_cut]
  simp only
  rw [hn, atoi_itoa n (by omega)]
  obtain ⟨len, p, rest⟩ := t
  simp only at *
  cases rest
  · have hne : nameF p ≠ [114] := by
      intro e
      have hl := letter_bd p.st
      unfold nameF at e
      have e := (List.cons.inj e).1
      rw [e] at hl
      revert hl; decide
    simp [hne, parseP_name (h4 rfl), hn]
  · have := h3 rfl
    subst this
    simp [hn]

/-- A motif's text is read again: its parts are its tones' texts. -/
theorem parts_text {l : List Tone} (h : l ≠ []) : splitL (textF l) = l.map toneText := by
  unfold textF
  refine splitL_join (by simpa using h) fun x hx => ?_
  obtain ⟨t, _, rfl⟩ := List.mem_map.1 hx
  exact tone_nospace t
end Go.Proofs.YteoghladllohjaaGreatDoor
