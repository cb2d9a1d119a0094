/- The model's text. -/
import Derived.Test.YtbmnkeihmmcciaaDoorM5
namespace Go.Proofs.YtbmnkeihmmcciaaDoor
open Go.RowKit Go.Sort

/-- The text of the first k tones. -/
def textK (l : List Tone) : Nat → List UInt8
  | 0 => []
  | k + 1 => if k = 0 then toneText (nth l 0) else textK l k ++ 32 :: toneText (nth l k)
theorem joinF_snoc (x : List UInt8) : ∀ (l : List (List UInt8)), l ≠ [] → joinF (l ++ [x]) = joinF l ++ 32 :: x
  | [], h => absurd rfl h
  | [y], _ => rfl
  | y :: z :: l, _ => by
    have := joinF_snoc x (z :: l) (by simp)
    rw [List.cons_append, List.cons_append, joinF, joinF, ← List.cons_append, this]
    simp
theorem take_snoc {l : List Tone} {k : Nat} (h : k < l.length) : l.take (k + 1) = l.take k ++ [nth l k] := by
  unfold nth
  rw [List.take_add_one, List.getD_eq_getElem?_getD, List.getElem?_eq_getElem h]
  rfl
theorem textK_eq (l : List Tone) : ∀ k, k ≤ l.length → textK l k = textF (l.take k)
  | 0, _ => rfl
  | k + 1, h => by
    unfold textK textF
    rw [take_snoc (by omega), List.map_append]
    by_cases hk : k = 0
    · subst hk
      simp [joinF]
    · rw [if_neg hk, List.map_singleton, joinF_snoc _ _ (by
        intro e
        have h1 : (List.map toneText (List.take k l)).length = 0 := by rw [e]; rfl
        rw [List.length_map, List.length_take] at h1
        omega), textK_eq l k (by omega)]
      rfl
theorem textK_all (l : List Tone) : textK l l.length = textF l := by
  rw [textK_eq l _ (Nat.le_refl _), List.take_length]
theorem tone_len {t : Tone} (h : toneErr t = 0) : (toneText t).length ≤ 50 := by
  obtain ⟨h1, h2, h3, h4⟩ := toneErr_zero h
  have a := itoa_len t.len (by omega) (by omega)
  unfold toneText
  rw [List.length_append, List.length_cons]
  cases hr : t.rest
  · obtain ⟨_, _, _, _, p5, p6, _, _⟩ := pitchCheckF_in (h4 hr)
    have b := itoa_len t.p.oc (by omega) (by omega)
    have c := signF_len t.p.al
    simp [nameF]
    omega
  · simp; omega
theorem textK_len {l : List Tone} (h : ∀ t ∈ l, toneErr t = 0) : ∀ k, k ≤ l.length → (textK l k).length ≤ 60 * k
  | 0, _ => Nat.le_refl _
  | k + 1, hk => by
    have ih := textK_len h k (by omega)
    have ht := tone_len (h _ (nth_mem (l := l) (k := k) (by omega)))
    unfold textK
    by_cases h0 : k = 0
    · subst h0; rw [if_pos rfl]; omega
    · rw [if_neg h0, List.length_append, List.length_cons]; omega

theorem addS (w : World) (a b : ByteArray) (ha : a.size ≤ 8000) (hb : b.size ≤ 8000) : (Op.stringOp .add a b).run Tryd.prog w = .ok (.string (a ++ b)) w :=
  run_string_add (P := Tryd.prog) w a b (by omega) (by omega)
theorem textK_zero (l : List Tone) : bs (toneText (nth l 0)) = bs (textK l 1) := rfl
theorem textK_succ (l : List Tone) {k : Nat} (h : k ≠ 0) : bs (textK l k) ++ ⟨#[32]⟩ ++ bs (toneText (nth l k)) = bs (textK l (k + 1)) := by
  rw [textK, if_neg h, show (⟨#[32]⟩ : ByteArray) = bs [32] from rfl, bs_append, bs_append]
  simp
theorem tone_bs (t : Tone) (N : List UInt8) (h : (if t.rest then [114] else nameF t.p) = N) : bs N ++ ⟨#[58]⟩ ++ bs (Lib.itoa t.len) = bs (toneText t) := by
  rw [toneText, h, show (⟨#[58]⟩ : ByteArray) = bs [58] from rfl, bs_append, bs_append]
  simp
theorem ba_assoc (a b c : ByteArray) : a ++ (b ++ c) = a ++ b ++ c := by
  apply ByteArray.ext; simp [Array.append_assoc]
theorem ba_nil (a : ByteArray) : (⟨#[]⟩ : ByteArray) ++ a = a := by
  apply ByteArray.ext; simp

set_option maxHeartbeats 4000000 in
theorem textM (A : Option Addr) (c : Nat) (l : List Tone) (w : World) (he : Env w) (hl : l.length ≤ 64) (hv : ∀ t ∈ l, toneErr t = 0) (h : SlT w A l) :
    Calls Tryd.prog 12 #[.slice A l.length c] w fun r w' => r = .returned (.string (bs (textF l))) ∧ Below w.heap.size w w' := by
  rw [← textK_all]
  have hlen := fun k hk => textK_len hv k hk
  have h0 := textK_zero l
  have hS := fun k hk => textK_succ l (k := k) hk
  obtain ⟨n, hn⟩ : ∃ n, n = l.length := ⟨_, rfl⟩
  rw [← hn] at hl ⊢
  have hn1 : n ≤ l.length := by omega
  have hn2 : l.length ≤ n := by omega
  clear hn
  go_enter Tryd.func12, Tryd.ntmps12
  go_wp2_with fail
  go_loopw [3, 4] (fun s i wr => ∃ k : Nat, k ≤ n ∧ i = .int .i64 k ∧ s = .string (bs (textK l k)) ∧ Below w.heap.size w wr) (fun _ i _ => n - (intOf i).toNat)
  case atStart => exact ⟨0, by omega, rfl, rfl, Below.refl _ _⟩
  case round =>
    obtain ⟨k, hk, rfl, rfl, hB⟩ := hrel
    have hz := hB.size
    by_cases hlt : k < n
    · obtain ⟨b, off, hAd, hlb, hrd⟩ := h.some (k := k) (by omega)
      cases hAd
      obtain ⟨r0, r1, r2, r3, r4⟩ := hrd.below hB hlb k (by omega)
      have ht := hv _ (nth_mem (l := l) (k := k) (by omega))
      have hlk := hlen k (by omega)
      have heq : k = 0 ∨ (k ≠ 0 ∧ bs (textK l k) ++ ⟨#[32]⟩ ++ bs (toneText (nth l k)) = bs (textK l (k + 1))) := by
        by_cases hk0 : k = 0
        · exact .inl hk0
        · exact .inr ⟨hk0, hS k hk0⟩
      have hsz := bs_size (textK l k)
      clear hS hlen hv hrd
      have hsp : (⟨#[32]⟩ : ByteArray).size = 1 := rfl
      have hco : (⟨#[58]⟩ : ByteArray).size = 1 := rfl
      have hr1 : (⟨#[114]⟩ : ByteArray).size = 1 := rfl
      rcases heq with rfl | ⟨hk0, heq⟩
      · have hT := tone_bs (nth l 0)
        have hbE : bs (textK l 0) = ⟨#[]⟩ := rfl
        simp only [Nat.zero_mul, Nat.add_zero] at r0 r1 r2 r3 r4
        generalize nth l 0 = t at *
        obtain ⟨len, ⟨st, al, oc⟩, rest⟩ := t
        simp only at r0 r1 r2 r3 r4
        obtain ⟨g1, g2, g3, g4⟩ := toneErr_zero ht
        simp only at g1 g2 g3 g4
        have hdl := itoa_len len (by omega) (by omega)
        have hds := bs_size (Lib.itoa len)
        cases rest
        · skip
          have hpc := g4 rfl
          have hN := nameC ⟨st, al, oc⟩ wr (he.below hB) hpc
          have hT := hT (nameF ⟨st, al, oc⟩) rfl
          obtain ⟨_, _, _, _, p5, p6, _, _⟩ := pitchCheckF_in hpc
          have q1 := itoa_len oc (by omega) (by omega)
          have q2 := signF_len al
          have q3 : (bs (nameF ⟨st, al, oc⟩)).size ≤ 30 := by rw [bs_size]; simp [nameF]; omega
          have hD := fun w => decimalC len w (by omega) (by omega)
          have n1 := ByteArray.size_append (a := bs (nameF ⟨st, al, oc⟩)) (b := ⟨#[58]⟩)
          have a1 := fun w => addS w ⟨#[]⟩ (bs (nameF ⟨st, al, oc⟩)) (by show 0 ≤ _; omega) (by omega)
          have a2 := fun w => addS w (bs (nameF ⟨st, al, oc⟩)) ⟨#[58]⟩ (by omega) (by omega)
          have a3 := fun w => addS w (bs (nameF ⟨st, al, oc⟩) ++ ⟨#[58]⟩) (bs (Lib.itoa len)) (by omega) (by omega)
          simp only [ba_nil] at a1
          rw [hT, h0] at a3
          rw [hbE]
          clear n1 hT h0 hds hdl hsz hlk hbE ht g1 g2 g3 g4 hsp hco hr1 q3
          generalize bs (nameF ⟨st, al, oc⟩) = NM at *
          generalize bs (Lib.itoa len) = DD at *
          go_wp2_with fail
          refine hN.mono ?_
          rintro e w1 ⟨rfl, hb1⟩
          have r0 := (hb1.cell (p := ⟨b, _, none⟩) (by show b < _; omega)).trans r0
          have hB1 := hB.trans (hb1.mono hz)
          go_wp2_with fail
          refine (hD _).mono ?_
          rintro e w2 ⟨rfl, hb2⟩
          go_wp2_with fail
          go_roundw
          case rel => exact ⟨1, by omega, by first | rfl | go_num, rfl, hB1.trans (hb2.mono hB1.size)⟩
          case measure => simp [intOf]; omega
        · skip
          have hT := hT [114] rfl
          have q3 : (⟨#[114]⟩ : ByteArray).size ≤ 30 := by omega
          change ⟨#[114]⟩ ++ ⟨#[58]⟩ ++ bs (Lib.itoa len) = _ at hT
          have hN := True.intro
          have hD := fun w => decimalC len w (by omega) (by omega)
          have n1 := ByteArray.size_append (a := ⟨#[114]⟩) (b := ⟨#[58]⟩)
          have a1 := fun w => addS w ⟨#[]⟩ (⟨#[114]⟩) (by show 0 ≤ _; omega) (by omega)
          have a2 := fun w => addS w (⟨#[114]⟩) ⟨#[58]⟩ (by omega) (by omega)
          have a3 := fun w => addS w (⟨#[114]⟩ ++ ⟨#[58]⟩) (bs (Lib.itoa len)) (by omega) (by omega)
          simp only [ba_nil] at a1
          rw [hT, h0] at a3
          rw [hbE]
          clear n1 hT h0 hds hdl hsz hlk hbE ht g1 g2 g3 g4 hsp hco hr1 q3
          generalize bs (Lib.itoa len) = DD at *
          go_wp2_with fail
          refine (hD _).mono ?_
          rintro e w2 ⟨rfl, hb2⟩
          go_wp2_with fail
          go_roundw
          case rel => exact ⟨1, by omega, by first | rfl | go_num, rfl, hB.trans (hb2.mono hz)⟩
          case measure => simp [intOf]; omega
      · have hT := tone_bs (nth l k)
        generalize nth l k = t at *
        obtain ⟨len, ⟨st, al, oc⟩, rest⟩ := t
        simp only at r0 r1 r2 r3 r4
        obtain ⟨g1, g2, g3, g4⟩ := toneErr_zero ht
        simp only at g1 g2 g3 g4
        have hdl := itoa_len len (by omega) (by omega)
        have hds := bs_size (Lib.itoa len)
        cases rest
        · skip
          have hpc := g4 rfl
          have hN := nameC ⟨st, al, oc⟩ wr (he.below hB) hpc
          have hT := hT (nameF ⟨st, al, oc⟩) rfl
          obtain ⟨_, _, _, _, p5, p6, _, _⟩ := pitchCheckF_in hpc
          have q1 := itoa_len oc (by omega) (by omega)
          have q2 := signF_len al
          have q3 : (bs (nameF ⟨st, al, oc⟩)).size ≤ 30 := by rw [bs_size]; simp [nameF]; omega
          have hD := fun w => decimalC len w (by omega) (by omega)
          have n0 := ByteArray.size_append (a := bs (textK l k)) (b := ⟨#[32]⟩)
          have n1 := ByteArray.size_append (a := (bs (textK l k) ++ ⟨#[32]⟩)) (b := bs (nameF ⟨st, al, oc⟩))
          have n2 := ByteArray.size_append (a := (bs (textK l k) ++ ⟨#[32]⟩) ++ bs (nameF ⟨st, al, oc⟩)) (b := ⟨#[58]⟩)
          have a0 := fun w => addS w (bs (textK l k)) ⟨#[32]⟩ (by omega) (by omega)
          have a1 := fun w => addS w (bs (textK l k) ++ ⟨#[32]⟩) (bs (nameF ⟨st, al, oc⟩)) (by omega) (by omega)
          have a2 := fun w => addS w ((bs (textK l k) ++ ⟨#[32]⟩) ++ bs (nameF ⟨st, al, oc⟩)) ⟨#[58]⟩ (by omega) (by omega)
          have a3 := fun w => addS w ((bs (textK l k) ++ ⟨#[32]⟩) ++ bs (nameF ⟨st, al, oc⟩) ++ ⟨#[58]⟩) (bs (Lib.itoa len)) (by omega) (by omega)
          have e3 : (bs (textK l k) ++ ⟨#[32]⟩) ++ bs (nameF ⟨st, al, oc⟩) ++ ⟨#[58]⟩ ++ bs (Lib.itoa len) = bs (textK l (k + 1)) := by
            rw [← heq, ← hT, ba_assoc, ba_assoc]
          rw [e3] at a3
          have hkp : 0 < k := by omega
          have a4 := True.intro
          clear n0 n1 n2 hT h0 hds hdl hsz hlk ht g1 g2 g3 g4 hsp hco hr1 q3 e3 heq hk0
          generalize bs (nameF ⟨st, al, oc⟩) = NM at *
          generalize bs (Lib.itoa len) = DD at *
          generalize bs (textK l k) = SS at *
          go_wp2_with fail
          refine hN.mono ?_
          rintro e w1 ⟨rfl, hb1⟩
          have r0 := (hb1.cell (p := ⟨b, _, none⟩) (by show b < _; omega)).trans r0
          have hB1 := hB.trans (hb1.mono hz)
          go_wp2_with fail
          refine (hD _).mono ?_
          rintro e w2 ⟨rfl, hb2⟩
          go_wp2_with fail
          go_roundw
          case rel => exact ⟨k + 1, by omega, by first | rfl | go_num, rfl, hB1.trans (hb2.mono hB1.size)⟩
          case measure => simp [intOf]; omega
        · skip
          have hT := hT [114] rfl
          have q3 : (⟨#[114]⟩ : ByteArray).size ≤ 30 := by omega
          change ⟨#[114]⟩ ++ ⟨#[58]⟩ ++ bs (Lib.itoa len) = _ at hT
          have hN := True.intro
          have hD := fun w => decimalC len w (by omega) (by omega)
          have n0 := ByteArray.size_append (a := bs (textK l k)) (b := ⟨#[32]⟩)
          have n1 := ByteArray.size_append (a := (bs (textK l k) ++ ⟨#[32]⟩)) (b := ⟨#[114]⟩)
          have n2 := ByteArray.size_append (a := (bs (textK l k) ++ ⟨#[32]⟩) ++ ⟨#[114]⟩) (b := ⟨#[58]⟩)
          have a0 := fun w => addS w (bs (textK l k)) ⟨#[32]⟩ (by omega) (by omega)
          have a1 := fun w => addS w (bs (textK l k) ++ ⟨#[32]⟩) (⟨#[114]⟩) (by omega) (by omega)
          have a2 := fun w => addS w ((bs (textK l k) ++ ⟨#[32]⟩) ++ ⟨#[114]⟩) ⟨#[58]⟩ (by omega) (by omega)
          have a3 := fun w => addS w ((bs (textK l k) ++ ⟨#[32]⟩) ++ ⟨#[114]⟩ ++ ⟨#[58]⟩) (bs (Lib.itoa len)) (by omega) (by omega)
          have e3 : (bs (textK l k) ++ ⟨#[32]⟩) ++ ⟨#[114]⟩ ++ ⟨#[58]⟩ ++ bs (Lib.itoa len) = bs (textK l (k + 1)) := by
            rw [← heq, ← hT, ba_assoc, ba_assoc]
          rw [e3] at a3
          have hkp : 0 < k := by omega
          have a4 := True.intro
          clear n0 n1 n2 hT h0 hds hdl hsz hlk ht g1 g2 g3 g4 hsp hco hr1 q3 e3 heq hk0
          generalize bs (Lib.itoa len) = DD at *
          generalize bs (textK l k) = SS at *
          go_wp2_with fail
          refine (hD _).mono ?_
          rintro e w2 ⟨rfl, hb2⟩
          go_wp2_with fail
          go_roundw
          case rel => exact ⟨k + 1, by omega, by first | rfl | go_num, rfl, hB.trans (hb2.mono hz)⟩
          case measure => simp [intOf]; omega
    · obtain rfl : k = n := by omega
      go_wp2_with fail
      go_ret
      exact ⟨rfl, hB⟩
end Go.Proofs.YtbmnkeihmmcciaaDoor
