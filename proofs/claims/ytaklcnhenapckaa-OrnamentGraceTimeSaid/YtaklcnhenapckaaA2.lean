/- Contracts: pitch.Number, pitch.Diatonic, the two semitones, the metre. -/
import Derived.Test.YtaklcnhenapckaaA1
namespace Go.Proofs.Ytaklcnhenapckaa
open Go.RowKit

def numOr (s a o : Int) : Int := if pitchCheckF s a o = 0 then numberF s a o else 0
def diaOr (s a o : Int) : Int := if pitchCheckF s a o = 0 then 7 * o + s else 0

theorem numOr_in {s a o : Int} (h : pitchCheckF s a o = 0) : numberF s a o = numOr s a o := by unfold numOr; rw [if_pos h]
theorem numOr_out {s a o : Int} (h : pitchCheckF s a o ≠ 0) : 0 = numOr s a o := by unfold numOr; rw [if_neg h]
theorem diaOr_in {s a o : Int} (h : pitchCheckF s a o = 0) : 7 * o + s = diaOr s a o := by unfold diaOr; rw [if_pos h]
theorem diaOr_out {s a o : Int} (h : pitchCheckF s a o ≠ 0) : 0 = diaOr s a o := by unfold diaOr; rw [if_neg h]
theorem ret_2 {k l : IntKind} {a b c d : Int} (h : a = b) (g : c = d) : Ending.returned (.tuple #[.int k a, .int l c]) = .returned (.tuple #[.int k b, .int l d]) := by rw [h, g]
theorem ret_3 {k l m : IntKind} {a b c d x y : Int} (h : a = b) (g : c = d) (f : x = y) : Ending.returned (.tuple #[.int k a, .int l c, .int m x]) = .returned (.tuple #[.int k b, .int l d, .int m y]) := by rw [h, g, f]

set_option maxHeartbeats 1000000 in
theorem numberC (s a o : Int) (w : World) :
    Calls Try.prog 21 #[pitchV s a o] w fun e w' => e = .returned (.tuple #[.int .i64 (numOr s a o), .int .i64 (pitchCheckF s a o)]) ∧ Below w.heap.size w w' := by
  by_cases h : pitchCheckF s a o = 0
  · obtain ⟨h1, h2, h3, h4, h5, h6, _⟩ := pitchCheckF_in h
    have e1 : (pitchCheckF s a o != 0) = false := by rw [h]; rfl
    have h := Lib.hid h
    go_enter Try.func21, Try.ntmps21
    go_wp2_with (first | (go_at_call 26; refine (pitchCheck _ _ _ _).mono ?_; rintro e w1 ⟨rfl, hb⟩; obtain ⟨hc, hf⟩ := bcell hb) | (go_at_call 32; refine (number _ _ _ _ h1 h2 h3 h4 h5 h6).mono ?_; rintro e w2 ⟨rfl, hb2⟩))
    go_ret2
    exact ⟨ret_2 (numOr_in h.out) h.out.symm, (((Below.refl _ _).alloc (Nat.le_refl _) _).trans (hb.mono (by simp))).trans (hb2.mono (by have := hb.size; simp at this; omega))⟩
  · have e1 : (pitchCheckF s a o != 0) = true := by simpa using h
    have h := Lib.hid h
    go_enter Try.func21, Try.ntmps21
    go_wp2_with (first | (go_at_call 26; refine (pitchCheck _ _ _ _).mono ?_; rintro e w1 ⟨rfl, hb⟩; obtain ⟨hc, hf⟩ := bcell hb))
    go_ret2
    exact ⟨ret_2 (numOr_out h.out) rfl, (((Below.refl _ _).alloc (Nat.le_refl _) _).trans (hb.mono (by simp)))⟩

set_option maxHeartbeats 1000000 in
theorem diatonicC (s a o : Int) (w : World) :
    Calls Try.prog 23 #[pitchV s a o] w fun e w' => e = .returned (.tuple #[.int .i64 (diaOr s a o), .int .i64 (pitchCheckF s a o)]) ∧ Below w.heap.size w w' := by
  by_cases h : pitchCheckF s a o = 0
  · obtain ⟨h1, h2, h3, h4, h5, h6, _⟩ := pitchCheckF_in h
    have e1 : (pitchCheckF s a o != 0) = false := by rw [h]; rfl
    have h := Lib.hid h
    go_enter Try.func23, Try.ntmps23
    go_wp2_with (first | (go_at_call 26; refine (pitchCheck _ _ _ _).mono ?_; rintro e w1 ⟨rfl, hb⟩; obtain ⟨hc, hf⟩ := bcell hb))
    go_ret2
    exact ⟨ret_2 (diaOr_in h.out) h.out.symm, (((Below.refl _ _).alloc (Nat.le_refl _) _).trans (hb.mono (by simp)))⟩
  · have e1 : (pitchCheckF s a o != 0) = true := by simpa using h
    have h := Lib.hid h
    go_enter Try.func23, Try.ntmps23
    go_wp2_with (first | (go_at_call 26; refine (pitchCheck _ _ _ _).mono ?_; rintro e w1 ⟨rfl, hb⟩; obtain ⟨hc, hf⟩ := bcell hb))
    go_ret2
    exact ⟨ret_2 (diaOr_out h.out) rfl, (((Below.refl _ _).alloc (Nat.le_refl _) _).trans (hb.mono (by simp)))⟩

/-- The semitones of a diatonic number, from C-1 on (ornament) or from C0 on (the law's model). -/
def semisF (d alt : Int) : Int := 12 * (d / 7) + semiF (d % 7) + alt

theorem tq7 (d : Int) (h : d < 0) : d.tdiv 7 = -((-d) / 7) ∧ d.tmod 7 = -((-d) % 7) := by
  obtain ⟨e, rfl⟩ : ∃ e, d = -e := ⟨-d, by omega⟩
  rw [Int.neg_tdiv, Int.neg_tmod, Int.tdiv_eq_ediv_of_nonneg (by omega), Int.tmod_eq_emod_of_nonneg (by omega)]
  simp

set_option maxHeartbeats 1000000 in
theorem semisO (d alt : Int) (w : World) (h1 : -10000 ≤ d) (h2 : d ≤ 10000) (h3 : -100 ≤ alt) (h4 : alt ≤ 100) :
    Calls Try.prog 25 #[.int .i64 d, .int .i64 alt] w fun e w' => e = .returned (.int .i64 (12 + semisF d alt)) ∧ w = w' := by
  by_cases hd : 0 ≤ d
  · have ix := semiIx (d % 7) (by omega) (by omega)
    have b := semiF_bd (d % 7)
    have hm : ¬ (d % 7 < 0) := by omega
    go_enter Try.func25, Try.ntmps25
    go_wp2
    go_ret
    exact ⟨ret_int (by unfold semisF; omega), rfl⟩
  · obtain ⟨q1, q2⟩ := tq7 d (by omega)
    have Q := Lib.hid (And.intro q1 q2)
    have k3 : -1500 ≤ d.tdiv 7 ∧ d.tdiv 7 ≤ 0 := by omega
    by_cases h : d.tmod 7 < 0
    · obtain ⟨k1, k2⟩ : 0 ≤ d.tmod 7 + 7 ∧ d.tmod 7 + 7 ≤ 6 := by omega
      have ix := semiIx _ k1 k2
      have b := semiF_bd (d.tmod 7 + 7)
      have C := Lib.hid (show d.tdiv 7 - 1 = d / 7 ∧ d.tmod 7 + 7 = d % 7 by omega)
      clear q1 q2
      go_enter Try.func25, Try.ntmps25
      go_wp2
      go_ret
      exact ⟨ret_int (by unfold semisF; rw [← C.out.1, ← C.out.2]; omega), rfl⟩
    · have C := Lib.hid (show d.tdiv 7 = d / 7 ∧ d.tmod 7 = d % 7 by omega)
      have ix := semiIx (d.tmod 7) (by omega) (by omega)
      have b := semiF_bd (d.tmod 7)
      clear q1 q2
      go_enter Try.func25, Try.ntmps25
      go_wp2
      go_ret
      exact ⟨ret_int (by unfold semisF; rw [← C.out.1, ← C.out.2]; omega), rfl⟩

set_option maxHeartbeats 1000000 in
theorem semisL (d alt : Int) (w : World) (h1 : -10000 ≤ d) (h2 : d ≤ 10000) (h3 : -100 ≤ alt) (h4 : alt ≤ 100) :
    Calls Try.prog 27 #[.int .i64 d, .int .i64 alt] w fun e w' => e = .returned (.int .i64 (semisF d alt)) ∧ Below w.heap.size w w' := by
  by_cases hd : 0 ≤ d
  · have hk : ∃ k, d % 7 = k := ⟨_, rfl⟩
    obtain ⟨k, hk⟩ := hk
    have hk2 : k = 0 ∨ k = 1 ∨ k = 2 ∨ k = 3 ∨ k = 4 ∨ k = 5 ∨ k = 6 := by omega
    have q : -1 ≤ d / 7 ∧ d / 7 ≤ 1500 := by omega
    have hs := Lib.hid (show semisF d alt = 12 * (d / 7) + semiF k + alt by unfold semisF; rw [hk])
    rcases hk2 with rfl | rfl | rfl | rfl | rfl | rfl | rfl
    all_goals
      go_enter Try.func27, Try.ntmps27
      go_wp2
      go_ret
      exact ⟨ret_int (by rw [hs.out]; simp [semiF]), by go_grown⟩
  · obtain ⟨q1, q2⟩ := tq7 d (by omega)
    have k3 : -1500 ≤ d.tdiv 7 ∧ d.tdiv 7 ≤ 0 := by omega
    by_cases h : d.tmod 7 < 0
    · have hk : ∃ k, d.tmod 7 = k := ⟨_, rfl⟩
      obtain ⟨k, hk⟩ := hk
      have hk2 : k = -7 ∨ k = -6 ∨ k = -5 ∨ k = -4 ∨ k = -3 ∨ k = -2 ∨ k = -1 := by omega
      have hs := Lib.hid (show semisF d alt = 12 * (d.tdiv 7 - 1) + semiF (k + 7) + alt by
        unfold semisF; rw [show d.tdiv 7 - 1 = d / 7 by omega, show k + 7 = d % 7 by omega])
      clear q1 q2
      rcases hk2 with rfl | rfl | rfl | rfl | rfl | rfl | rfl
      all_goals
        go_enter Try.func27, Try.ntmps27
        go_wp2
        go_ret
        exact ⟨ret_int (by rw [hs.out]; simp [semiF]), by go_grown⟩
    · have hk : d.tmod 7 = 0 := by omega
      have hs := Lib.hid (show semisF d alt = 12 * (d.tdiv 7) + alt by
        unfold semisF; rw [show d.tdiv 7 = d / 7 by omega, show d % 7 = 0 by omega]; simp [semiF])
      clear q1 q2
      go_enter Try.func27, Try.ntmps27
      go_wp2
      go_ret
      exact ⟨ret_int (by rw [hs.out]; try simp), by go_grown⟩

end Go.Proofs.Ytaklcnhenapckaa
