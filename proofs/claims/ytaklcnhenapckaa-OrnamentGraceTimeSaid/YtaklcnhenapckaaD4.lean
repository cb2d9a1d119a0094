/- Graces: errors, and no grace notes. -/
import Derived.Test.YtaklcnhenapckaaD3
namespace Go.Proofs.Ytaklcnhenapckaa
open Go.RowKit

def errGr (l : List Gr) (s a o len : Int) : Int := if checkG l ≠ 0 then checkG l else if pitchCheckF s a o ≠ 0 then pitchCheckF s a o else if len < 1 ∨ 4398046511104 < len then 2 else 0

theorem checkGraces_nil (A : Option Addr) (cap : Nat) (w : World) :
    Calls Try.prog 31 #[.slice A 0 cap] w fun e w' => e = .returned (.int .i64 0) ∧ w = w' := by
  go_enter Try.func31, Try.ntmps31
  go_wp2_with fail
  go_rounds 1
  go_ret
  exact ⟨rfl, rfl⟩

theorem ret_e {e f : Int} (h : e = f) : Ending.returned (.tuple #[.slice none 0 0, .int .i64 0, .int .i64 e]) = .returned (.tuple #[.slice none 0 0, .int .i64 0, .int .i64 f]) := by rw [h]

set_option maxHeartbeats 4000000 in
theorem gracesO_bad (l : List Gr) (n : Nat) (hl' : l.length = n) (b off cap : Nat) (s a o len : Int) (w : World) (hb : b < w.heap.size) (hr : RdG w b off n l) (h0 : 0 < n) (hn : n ≤ 10) (he : errGr l s a o len ≠ 0) :
    Calls Try.prog 19 #[.slice (some ⟨b, off, none⟩) n cap, pitchV s a o, .int .i64 len] w fun e w' => e = .returned (.tuple #[.slice none 0 0, .int .i64 0, .int .i64 (errGr l s a o len)]) ∧ Below w.heap.size w w' := by
  have hl := Lib.hid hl'
  have hR := Lib.hid hr
  clear hr
  by_cases h8 : 8 < n
  · have hE := Lib.hid (show errGr l s a o len = 9 by unfold errGr checkG; rw [hl', if_pos h8]; rfl)
    clear hl' he
    go_enter Try.func19, Try.ntmps19
    go_wp2_with fail
    go_ret3
    exact ⟨ret_e hE.out.symm, by go_grown⟩
  clear hl'
  by_cases hc : checkG l = 0
  · have hC := Lib.hid hc
    by_cases hp : pitchCheckF s a o = 0
    · have hP := Lib.hid hp
      have hlen : len < 1 ∨ (1 ≤ len ∧ 4398046511104 < len) := by
        unfold errGr at he; rw [if_neg (by omega), if_neg (by omega)] at he
        split at he <;> omega
      have hE := Lib.hid (show errGr l s a o len = 2 by unfold errGr; rw [if_neg (by omega), if_neg (by omega), if_pos (by omega)])
      clear hc hp he
      rcases hlen with g1 | ⟨g1, g2⟩
      all_goals
        go_enter Try.func19, Try.ntmps19
        go_wp2_with fail
        refine (checkGraces l n hl.out b off cap _ (by simp; omega) (hR.out.below (B := w.heap.size) ((Below.refl _ _).alloc (Nat.le_refl _) _) hb) h0 hn).mono ?_
        rintro e w1 ⟨rfl, hb1⟩
        rw [hC.out]
        obtain ⟨hc1, hf1⟩ := bcell hb1
        have hz1 : w.heap.size < w1.heap.size := by have := hb1.size; simp at this; omega
        have B1 := bstep ((Below.refl _ _).alloc (Nat.le_refl _) _) hb1
        go_wp2_with fail
        refine (numberC _ _ _ _).mono ?_; rintro e w2 ⟨rfl, hb2⟩
        rw [hP.out]
        go_wp2_with fail
        go_ret3
        exact ⟨ret_e hE.out.symm, bstep B1 hb2⟩
    · have hp2 : pitchCheckF s a o = 18 := (pitchCheckF_two s a o).resolve_left hp
      have hP := Lib.hid hp2
      have hE := Lib.hid (show errGr l s a o len = 18 by unfold errGr; rw [if_neg (by omega), if_pos hp, hp2])
      clear hc hp he hp2
      go_enter Try.func19, Try.ntmps19
      go_wp2_with fail
      refine (checkGraces l n hl.out b off cap _ (by simp; omega) (hR.out.below (B := w.heap.size) ((Below.refl _ _).alloc (Nat.le_refl _) _) hb) h0 hn).mono ?_
      rintro e w1 ⟨rfl, hb1⟩
      rw [hC.out]
      obtain ⟨hc1, hf1⟩ := bcell hb1
      have hz1 : w.heap.size < w1.heap.size := by have := hb1.size; simp at this; omega
      have B1 := bstep ((Below.refl _ _).alloc (Nat.le_refl _) _) hb1
      go_wp2_with fail
      refine (numberC _ _ _ _).mono ?_; rintro e w2 ⟨rfl, hb2⟩
      rw [hP.out]
      go_wp2_with fail
      go_ret3
      exact ⟨ret_e hE.out.symm, bstep B1 hb2⟩
  · have hC : (checkG l != 0) = true := by simpa using hc
    have hE := Lib.hid (show errGr l s a o len = checkG l by unfold errGr; rw [if_pos hc])
    clear hc he
    go_enter Try.func19, Try.ntmps19
    go_wp2_with fail
    refine (checkGraces l n hl.out b off cap _ (by simp; omega) (hR.out.below (B := w.heap.size) ((Below.refl _ _).alloc (Nat.le_refl _) _) hb) h0 hn).mono ?_
    rintro e w1 ⟨rfl, hb1⟩
    have B1 := bstep ((Below.refl _ _).alloc (Nat.le_refl _) _) hb1
    go_wp2_with fail
    go_ret3
    exact ⟨ret_e hE.out.symm, B1⟩

set_option maxHeartbeats 4000000 in
theorem gracesO_nil (A : Option Addr) (cap : Nat) (s a o len : Int) (w : World) :
    Calls Try.prog 19 #[.slice A 0 cap, pitchV s a o, .int .i64 len] w fun e w' => e = .returned (.tuple #[.slice none 0 0, .int .i64 0, .int .i64 (errGr [] s a o len)]) ∧ Below w.heap.size w w' := by
  have hc : checkG [] = 0 := rfl
  by_cases hp : pitchCheckF s a o = 0
  · have hP := Lib.hid hp
    by_cases g : len < 1 ∨ 4398046511104 < len
    · have hlen : len < 1 ∨ (1 ≤ len ∧ 4398046511104 < len) := by omega
      have hE := Lib.hid (show errGr [] s a o len = 2 by unfold errGr; rw [if_neg (by omega), if_neg (by omega), if_pos (by omega)])
      clear hp g hc
      rcases hlen with g1 | ⟨g1, g2⟩
      all_goals
        go_enter Try.func19, Try.ntmps19
        go_wp2_with fail
        refine (checkGraces_nil _ _ _).mono ?_
        rintro e w1 ⟨rfl, rfl⟩
        go_wp2_with fail
        refine (numberC _ _ _ _).mono ?_; rintro e w2 ⟨rfl, hb2⟩
        rw [hP.out]
        go_wp2_with fail
        go_ret3
        exact ⟨ret_e hE.out.symm, bstep ((Below.refl _ _).alloc (Nat.le_refl _) _) hb2⟩
    · have hE := Lib.hid (show errGr [] s a o len = 0 by unfold errGr; rw [if_neg (by omega), if_neg (by omega), if_neg g])
      have g' : 1 ≤ len ∧ len ≤ 4398046511104 := by omega
      obtain ⟨g1, g2⟩ := g'
      clear hp g hc
      have k1 : ¬ len / 2 < 0 := by omega
      go_enter Try.func19, Try.ntmps19
      go_wp2_with fail
      refine (checkGraces_nil _ _ _).mono ?_
      rintro e w1 ⟨rfl, rfl⟩
      go_wp2_with fail
      refine (numberC _ _ _ _).mono ?_; rintro e w2 ⟨rfl, hb2⟩
      rw [hP.out]
      go_wp2_with fail
      go_rounds 1
      go_wp2_with fail
      go_rounds 1
      go_wp2_with fail
      go_ret3
      exact ⟨ret_e hE.out.symm, (bstep ((Below.refl _ _).alloc (Nat.le_refl _) _) hb2).alloc (by have := hb2.size; simp at this; omega) _⟩
  · have hp2 : pitchCheckF s a o = 18 := (pitchCheckF_two s a o).resolve_left hp
    have hP := Lib.hid hp2
    have hE := Lib.hid (show errGr [] s a o len = 18 by unfold errGr; rw [if_neg (by omega), if_pos hp, hp2])
    clear hp hp2 hc
    go_enter Try.func19, Try.ntmps19
    go_wp2_with fail
    refine (checkGraces_nil _ _ _).mono ?_
    rintro e w1 ⟨rfl, rfl⟩
    go_wp2_with fail
    refine (numberC _ _ _ _).mono ?_; rintro e w2 ⟨rfl, hb2⟩
    rw [hP.out]
    go_wp2_with fail
    go_ret3
    exact ⟨ret_e hE.out.symm, bstep ((Below.refl _ _).alloc (Nat.le_refl _) _) hb2⟩

set_option maxHeartbeats 4000000 in
theorem gracesL_bad (l : List Gr) (n : Nat) (hl' : l.length = n) (b off cap : Nat) (s a o len : Int) (w : World) (hb : b < w.heap.size) (hr : RdG w b off n l) (h0 : 0 < n) (hn : n ≤ 10) (he : errGr l s a o len ≠ 0) :
    Calls Try.prog 20 #[.slice (some ⟨b, off, none⟩) n cap, pitchV s a o, .int .i64 len] w fun e w' => e = .returned (.tuple #[.slice none 0 0, .int .i64 0, .int .i64 (errGr l s a o len)]) ∧ Below w.heap.size w w' := by
  have hl := Lib.hid hl'
  have hR := Lib.hid hr
  clear hr
  by_cases h8 : 8 < n
  · have hE := Lib.hid (show errGr l s a o len = 9 by unfold errGr checkG; rw [hl', if_pos h8]; rfl)
    clear hl' he
    go_enter Try.func20, Try.ntmps20
    go_wp2_with fail
    go_ret3
    exact ⟨ret_e hE.out.symm, by go_grown⟩
  clear hl'
  by_cases hc : checkG l = 0
  · have hC := Lib.hid hc
    by_cases hp : pitchCheckF s a o = 0
    · have hP := Lib.hid hp
      have hlen : len < 1 ∨ (1 ≤ len ∧ 4398046511104 < len) := by
        unfold errGr at he; rw [if_neg (by omega), if_neg (by omega)] at he
        split at he <;> omega
      have hE := Lib.hid (show errGr l s a o len = 2 by unfold errGr; rw [if_neg (by omega), if_neg (by omega), if_pos (by omega)])
      clear hc hp he
      rcases hlen with g1 | ⟨g1, g2⟩
      all_goals
        go_enter Try.func20, Try.ntmps20
        go_wp2_with fail
        refine (checkGraces l n hl.out b off cap _ (by simp; omega) (hR.out.below (B := w.heap.size) ((Below.refl _ _).alloc (Nat.le_refl _) _) hb) h0 hn).mono ?_
        rintro e w1 ⟨rfl, hb1⟩
        rw [hC.out]
        obtain ⟨hc1, hf1⟩ := bcell hb1
        have hz1 : w.heap.size < w1.heap.size := by have := hb1.size; simp at this; omega
        have B1 := bstep ((Below.refl _ _).alloc (Nat.le_refl _) _) hb1
        go_wp2_with fail
        refine (pitchCheck _ _ _ _).mono ?_; rintro e w2 ⟨rfl, hb2⟩
        rw [hP.out]
        go_wp2_with fail
        go_ret3
        exact ⟨ret_e hE.out.symm, bstep B1 hb2⟩
    · have hp2 : pitchCheckF s a o = 18 := (pitchCheckF_two s a o).resolve_left hp
      have hP := Lib.hid hp2
      have hE := Lib.hid (show errGr l s a o len = 18 by unfold errGr; rw [if_neg (by omega), if_pos hp, hp2])
      clear hc hp he hp2
      go_enter Try.func20, Try.ntmps20
      go_wp2_with fail
      refine (checkGraces l n hl.out b off cap _ (by simp; omega) (hR.out.below (B := w.heap.size) ((Below.refl _ _).alloc (Nat.le_refl _) _) hb) h0 hn).mono ?_
      rintro e w1 ⟨rfl, hb1⟩
      rw [hC.out]
      obtain ⟨hc1, hf1⟩ := bcell hb1
      have hz1 : w.heap.size < w1.heap.size := by have := hb1.size; simp at this; omega
      have B1 := bstep ((Below.refl _ _).alloc (Nat.le_refl _) _) hb1
      go_wp2_with fail
      refine (pitchCheck _ _ _ _).mono ?_; rintro e w2 ⟨rfl, hb2⟩
      rw [hP.out]
      go_wp2_with fail
      go_ret3
      exact ⟨ret_e hE.out.symm, bstep B1 hb2⟩
  · have hC : (checkG l != 0) = true := by simpa using hc
    have hE := Lib.hid (show errGr l s a o len = checkG l by unfold errGr; rw [if_pos hc])
    clear hc he
    go_enter Try.func20, Try.ntmps20
    go_wp2_with fail
    refine (checkGraces l n hl.out b off cap _ (by simp; omega) (hR.out.below (B := w.heap.size) ((Below.refl _ _).alloc (Nat.le_refl _) _) hb) h0 hn).mono ?_
    rintro e w1 ⟨rfl, hb1⟩
    have B1 := bstep ((Below.refl _ _).alloc (Nat.le_refl _) _) hb1
    go_wp2_with fail
    go_ret3
    exact ⟨ret_e hE.out.symm, B1⟩

set_option maxHeartbeats 4000000 in
theorem gracesL_nil (A : Option Addr) (cap : Nat) (s a o len : Int) (w : World) :
    Calls Try.prog 20 #[.slice A 0 cap, pitchV s a o, .int .i64 len] w fun e w' => e = .returned (.tuple #[.slice none 0 0, .int .i64 0, .int .i64 (errGr [] s a o len)]) ∧ Below w.heap.size w w' := by
  have hc : checkG [] = 0 := rfl
  by_cases hp : pitchCheckF s a o = 0
  · have hP := Lib.hid hp
    by_cases g : len < 1 ∨ 4398046511104 < len
    · have hlen : len < 1 ∨ (1 ≤ len ∧ 4398046511104 < len) := by omega
      have hE := Lib.hid (show errGr [] s a o len = 2 by unfold errGr; rw [if_neg (by omega), if_neg (by omega), if_pos (by omega)])
      clear hp g hc
      rcases hlen with g1 | ⟨g1, g2⟩
      all_goals
        go_enter Try.func20, Try.ntmps20
        go_wp2_with fail
        refine (checkGraces_nil _ _ _).mono ?_
        rintro e w1 ⟨rfl, rfl⟩
        go_wp2_with fail
        refine (pitchCheck _ _ _ _).mono ?_; rintro e w2 ⟨rfl, hb2⟩
        rw [hP.out]
        go_wp2_with fail
        go_ret3
        exact ⟨ret_e hE.out.symm, bstep ((Below.refl _ _).alloc (Nat.le_refl _) _) hb2⟩
    · have hE := Lib.hid (show errGr [] s a o len = 0 by unfold errGr; rw [if_neg (by omega), if_neg (by omega), if_neg g])
      have g' : 1 ≤ len ∧ len ≤ 4398046511104 := by omega
      obtain ⟨g1, g2⟩ := g'
      clear hp g hc
      have k1 : ¬ len / 2 < 0 := by omega
      go_enter Try.func20, Try.ntmps20
      go_wp2_with fail
      refine (checkGraces_nil _ _ _).mono ?_
      rintro e w1 ⟨rfl, rfl⟩
      go_wp2_with fail
      refine (pitchCheck _ _ _ _).mono ?_; rintro e w2 ⟨rfl, hb2⟩
      rw [hP.out]
      go_wp2_with fail
      go_rounds 1
      go_wp2_with fail
      go_ret3
      exact ⟨ret_e hE.out.symm, bstep ((Below.refl _ _).alloc (Nat.le_refl _) _) hb2⟩
  · have hp2 : pitchCheckF s a o = 18 := (pitchCheckF_two s a o).resolve_left hp
    have hP := Lib.hid hp2
    have hE := Lib.hid (show errGr [] s a o len = 18 by unfold errGr; rw [if_neg (by omega), if_pos hp, hp2])
    clear hp hp2 hc
    go_enter Try.func20, Try.ntmps20
    go_wp2_with fail
    refine (checkGraces_nil _ _ _).mono ?_
    rintro e w1 ⟨rfl, rfl⟩
    go_wp2_with fail
    refine (pitchCheck _ _ _ _).mono ?_; rintro e w2 ⟨rfl, hb2⟩
    rw [hP.out]
    go_wp2_with fail
    go_ret3
    exact ⟨ret_e hE.out.symm, bstep ((Below.refl _ _).alloc (Nat.le_refl _) _) hb2⟩
end Go.Proofs.Ytaklcnhenapckaa
