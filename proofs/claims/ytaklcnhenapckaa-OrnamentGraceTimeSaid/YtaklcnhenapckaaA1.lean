/- Contracts of the leaves: key, pitch. -/
import Derived.Test.YtaklcnhenapckaaProg
import Derived.WalkKit
import Derived.WalkSpells
import Derived.WalkLawsBesides
import Derived.Handy
import Derived.Deep.RegionHeld3
import Derived.Deep.DrawnRows
import Derived.Lib.Hide
namespace Go.Proofs.Ytaklcnhenapckaa
open Go.RowKit

theorem ret_int {k : IntKind} {a b : Int} (h : a = b) : Ending.returned (.int k a) = .returned (.int k b) := by rw [h]
theorem ret_bool {a b : Bool} (h : a = b) : Ending.returned (.bool a) = .returned (.bool b) := by rw [h]

theorem bcell {W w1 : World} (hb : Below W.heap.size W w1) : (∀ b o, b < W.heap.size → w1.cell? ⟨b, o, none⟩ = W.cell? ⟨b, o, none⟩) ∧ (∀ b o, b < W.heap.size → w1.frozen? ⟨b, o, none⟩ = W.frozen? ⟨b, o, none⟩) :=
  ⟨fun b o h => hb.cell (p := ⟨b, o, none⟩) h, fun b o h => hb.frozen (p := ⟨b, o, none⟩) h⟩

def keyCheckF (f : Int) : Int := if f < -7 ∨ 7 < f then 2 else 0
theorem keyCheck (f : Int) (w : World) :
    Calls Try.prog 22 #[.int .i64 f] w fun e w' => e = .returned (.int .i64 (keyCheckF f)) ∧ w = w' := by
  go_enter Try.func22, Try.ntmps22
  go_wp2
  all_goals (go_ret; exact ⟨ret_int (by unfold keyCheckF; split <;> omega), rfl⟩)

def isStepF (s : Int) : Bool := decide (0 ≤ s ∧ s ≤ 6)
theorem isStep (s : Int) (w : World) :
    Calls Try.prog 33 #[.int .i64 s] w fun e w' => e = .returned (.bool (isStepF s)) ∧ w = w' := by
  by_cases h : 0 ≤ s
  all_goals
    go_enter Try.func33, Try.ntmps33
    go_wp2
    go_ret
    exact ⟨ret_bool (by unfold isStepF; simp; omega), rfl⟩

theorem semitonesC (w : World) :
    Calls Try.prog 36 #[] w fun e w' => e = .returned (.agg #[.int .i64 0, .int .i64 2, .int .i64 4, .int .i64 5, .int .i64 7, .int .i64 9, .int .i64 11]) ∧ Below w.heap.size w w' := by
  go_enter Try.func36, Try.ntmps36
  go_wp2
  go_returns
  exact ⟨rfl, by go_grown⟩

theorem sharpsC (w : World) :
    Calls Try.prog 38 #[] w fun e w' => e = .returned (.agg #[.int .i64 3, .int .i64 0, .int .i64 4, .int .i64 1, .int .i64 5, .int .i64 2, .int .i64 6]) ∧ Below w.heap.size w w' := by
  go_enter Try.func38, Try.ntmps38
  go_wp2
  go_returns
  exact ⟨rfl, by go_grown⟩

def placeF (s : Int) : Int := if s = 3 then -1 else if s = 0 then 0 else if s = 4 then 1 else if s = 1 then 2 else if s = 5 then 3 else if s = 2 then 4 else if s = 6 then 5 else 0

theorem place (s : Int) (w : World) :
    Calls Try.prog 37 #[.int .i64 s] w fun e w' => e = .returned (.int .i64 (placeF s)) ∧ Below w.heap.size w w' := by
  have ix : ∀ (n : Nat) (v : Int) (W : World), (n, v) ∈ [(0, (3 : Int)), (1, 0), (2, 4), (3, 1), (4, 5), (5, 2), (6, 6)] → (Instr.index 65 (.agg #[.int .i64 3, .int .i64 0, .int .i64 4, .int .i64 1, .int .i64 5, .int .i64 2, .int .i64 6]) (.int .i64 n)).run Try.prog W = .ok (.int .i64 v) W := by
    intro n v W h
    simp only [List.mem_cons, Prod.mk.injEq, List.not_mem_nil, or_false] at h
    rcases h with ⟨rfl, rfl⟩ | ⟨rfl, rfl⟩ | ⟨rfl, rfl⟩ | ⟨rfl, rfl⟩ | ⟨rfl, rfl⟩ | ⟨rfl, rfl⟩ | ⟨rfl, rfl⟩ <;> kernel_rfl
  have i0 : ∀ W, (Instr.index 65 (.agg #[.int .i64 3, .int .i64 0, .int .i64 4, .int .i64 1, .int .i64 5, .int .i64 2, .int .i64 6]) (.int .i64 0)).run Try.prog W = .ok (.int .i64 3) W := fun W => ix 0 3 W (by simp)
  have i1 : ∀ W, (Instr.index 65 (.agg #[.int .i64 3, .int .i64 0, .int .i64 4, .int .i64 1, .int .i64 5, .int .i64 2, .int .i64 6]) (.int .i64 1)).run Try.prog W = .ok (.int .i64 0) W := fun W => ix 1 0 W (by simp)
  have i2 : ∀ W, (Instr.index 65 (.agg #[.int .i64 3, .int .i64 0, .int .i64 4, .int .i64 1, .int .i64 5, .int .i64 2, .int .i64 6]) (.int .i64 2)).run Try.prog W = .ok (.int .i64 4) W := fun W => ix 2 4 W (by simp)
  have i3 : ∀ W, (Instr.index 65 (.agg #[.int .i64 3, .int .i64 0, .int .i64 4, .int .i64 1, .int .i64 5, .int .i64 2, .int .i64 6]) (.int .i64 3)).run Try.prog W = .ok (.int .i64 1) W := fun W => ix 3 1 W (by simp)
  have i4 : ∀ W, (Instr.index 65 (.agg #[.int .i64 3, .int .i64 0, .int .i64 4, .int .i64 1, .int .i64 5, .int .i64 2, .int .i64 6]) (.int .i64 4)).run Try.prog W = .ok (.int .i64 5) W := fun W => ix 4 5 W (by simp)
  have i5 : ∀ W, (Instr.index 65 (.agg #[.int .i64 3, .int .i64 0, .int .i64 4, .int .i64 1, .int .i64 5, .int .i64 2, .int .i64 6]) (.int .i64 5)).run Try.prog W = .ok (.int .i64 2) W := fun W => ix 5 2 W (by simp)
  have i6 : ∀ W, (Instr.index 65 (.agg #[.int .i64 3, .int .i64 0, .int .i64 4, .int .i64 1, .int .i64 5, .int .i64 2, .int .i64 6]) (.int .i64 6)).run Try.prog W = .ok (.int .i64 6) W := fun W => ix 6 6 W (by simp)
  clear ix
  go_enter Try.func37, Try.ntmps37
  go_wp2_with (go_at_call 38; refine (sharpsC _).mono ?_; rintro e w' ⟨rfl, hb⟩)
  go_rounds 8
  all_goals
    go_ret
    exact ⟨ret_int (by simp only [beq_iff_eq, beq_eq_false_iff_ne] at *; unfold placeF; (repeat' split) <;> omega), hb⟩

def alterF (f s : Int) : Int := if placeF s + 1 < f then 1 else if 6 - (placeF s + 1) < -f then -1 else 0
theorem placeF_bd (s : Int) : -1 ≤ placeF s ∧ placeF s ≤ 5 := by unfold placeF; (repeat' split) <;> omega
theorem alterF_bd (f s : Int) : -1 ≤ alterF f s ∧ alterF f s ≤ 1 := by unfold alterF; (repeat' split) <;> omega

theorem alter (f s : Int) (w : World) (h1 : -7 ≤ f) (h2 : f ≤ 7) :
    Calls Try.prog 34 #[.int .i64 f, .int .i64 s] w fun e w' => e = .returned (.int .i64 (alterF f s)) ∧ Below w.heap.size w w' := by
  obtain ⟨p1, p2⟩ := placeF_bd s
  go_enter Try.func34, Try.ntmps34
  go_wp2_with (go_at_call 37; refine (place _ _).mono ?_; rintro e w' ⟨rfl, hb⟩)
  all_goals
    go_ret
    exact ⟨ret_int (by unfold alterF; (repeat' split) <;> omega), hb⟩

/-- key.Alter under a signature and a step that exist. -/
theorem alterC (f s : Int) (w : World) (h1 : -7 ≤ f) (h2 : f ≤ 7) (h3 : 0 ≤ s) (h4 : s ≤ 6) :
    Calls Try.prog 24 #[.int .i64 f, .int .i64 s] w fun e w' => e = .returned (.tuple #[.int .i64 (alterF f s), .int .i64 0]) ∧ Below w.heap.size w w' := by
  have e1 : keyCheckF f = 0 := by unfold keyCheckF; rw [if_neg (by omega)]
  have e2 : isStepF s = true := by unfold isStepF; simp; omega
  go_enter Try.func24, Try.ntmps24
  go_wp2_with (first | (go_at_call 22; refine (keyCheck _ _).mono ?_; rintro e w' ⟨rfl, rfl⟩) | (go_at_call 33; refine (isStep _ _).mono ?_; rintro e w' ⟨rfl, rfl⟩) | (go_at_call 34; refine (alter _ _ _ h1 h2).mono ?_; rintro e w' ⟨rfl, hb⟩))
  go_ret2
  exact ⟨rfl, hb⟩

def semiF (n : Int) : Int := if n = 0 then 0 else if n = 1 then 2 else if n = 2 then 4 else if n = 3 then 5 else if n = 4 then 7 else if n = 5 then 9 else 11
theorem semiF_bd (n : Int) : 0 ≤ semiF n ∧ semiF n ≤ 11 := by unfold semiF; (repeat' split) <;> omega
theorem semiIx (n : Int) (h0 : 0 ≤ n) (h6 : n ≤ 6) (W : World) : (Instr.index 65 (.agg #[.int .i64 0, .int .i64 2, .int .i64 4, .int .i64 5, .int .i64 7, .int .i64 9, .int .i64 11]) (.int .i64 n)).run Try.prog W = .ok (.int .i64 (semiF n)) W := by
  have h : ∀ (n v : Int), (n, v) ∈ [((0 : Int), (0 : Int)), (1, 2), (2, 4), (3, 5), (4, 7), (5, 9), (6, 11)] → (Instr.index 65 (.agg #[.int .i64 0, .int .i64 2, .int .i64 4, .int .i64 5, .int .i64 7, .int .i64 9, .int .i64 11]) (.int .i64 n)).run Try.prog W = .ok (.int .i64 v) W := by
    intro n v h
    simp only [List.mem_cons, Prod.mk.injEq, List.not_mem_nil, or_false] at h
    rcases h with ⟨rfl, rfl⟩ | ⟨rfl, rfl⟩ | ⟨rfl, rfl⟩ | ⟨rfl, rfl⟩ | ⟨rfl, rfl⟩ | ⟨rfl, rfl⟩ | ⟨rfl, rfl⟩ <;> kernel_rfl
  apply h
  have h : n = 0 ∨ n = 1 ∨ n = 2 ∨ n = 3 ∨ n = 4 ∨ n = 5 ∨ n = 6 := by omega
  rcases h with rfl | rfl | rfl | rfl | rfl | rfl | rfl <;> simp [semiF]

/-- A pitch as a value. -/
abbrev pitchV (s a o : Int) : Value := .agg #[.int .i64 s, .int .i64 a, .int .i64 o]
def numberF (s a o : Int) : Int := 12 * (o + 1) + semiF s + a

set_option maxHeartbeats 1000000 in
theorem number (s a o : Int) (w : World) (h1 : 0 ≤ s) (h2 : s ≤ 6) (h3 : -2 ≤ a) (h4 : a ≤ 2) (h5 : -1 ≤ o) (h6 : o ≤ 9) :
    Calls Try.prog 32 #[pitchV s a o] w fun e w' => e = .returned (.int .i64 (numberF s a o)) ∧ Below w.heap.size w w' := by
  have ix := semiIx s h1 h2
  obtain ⟨b1, b2⟩ := semiF_bd s
  go_enter Try.func32, Try.ntmps32
  go_wp2
  go_region_held3 (fun w' => w'.cell? ⟨w.heap.size, 0, none⟩ = some (.int .i64 s) ∧ w'.cell? ⟨w.heap.size, 1, none⟩ = some (.int .i64 a) ∧ w'.cell? ⟨w.heap.size, 2, none⟩ = some (.int .i64 o)) (simp [*, go_sem])
    (first | (go_at_call 36; refine (semitonesC _).mono ?_; rintro e w' ⟨rfl, hb⟩; obtain ⟨hc, hf⟩ := bcell hb))
  go_wp2
  go_ret
  exact ⟨ret_int (by unfold numberF; simp only [IntKind.wrap_i64]; omega), ((Below.refl _ _).alloc (Nat.le_refl _) _).drew.trans (hb.mono (by simp))⟩

def pitchCheckF (s a o : Int) : Int :=
  if s < 0 ∨ 6 < s ∨ a < -2 ∨ 2 < a ∨ o < -1 ∨ 9 < o then 18 else if numberF s a o < 0 ∨ 127 < numberF s a o then 18 else 0

theorem numberF_bd (s a o : Int) (h3 : -2 ≤ a) (h4 : a ≤ 2) (h5 : -1 ≤ o) (h6 : o ≤ 9) : -2 ≤ numberF s a o ∧ numberF s a o ≤ 133 := by
  have := semiF_bd s; unfold numberF; omega

theorem pitchCheckF_out {s a o : Int} (h : s < 0 ∨ 6 < s ∨ a < -2 ∨ 2 < a ∨ o < -1 ∨ 9 < o) : pitchCheckF s a o = 18 := by unfold pitchCheckF; rw [if_pos h]
theorem pitchCheckF_in {s a o : Int} (h : pitchCheckF s a o = 0) : 0 ≤ s ∧ s ≤ 6 ∧ -2 ≤ a ∧ a ≤ 2 ∧ -1 ≤ o ∧ o ≤ 9 ∧ 0 ≤ numberF s a o ∧ numberF s a o ≤ 127 := by
  unfold pitchCheckF at h
  split at h
  · omega
  · split at h <;> omega

set_option maxHeartbeats 1000000 in
theorem pitchCheck (s a o : Int) (w : World) :
    Calls Try.prog 26 #[pitchV s a o] w fun e w' => e = .returned (.int .i64 (pitchCheckF s a o)) ∧ Below w.heap.size w w' := by
  have hc : s < 0 ∨ (0 ≤ s ∧ 6 < s) ∨ (0 ≤ s ∧ s ≤ 6 ∧ a < -2) ∨ (0 ≤ s ∧ s ≤ 6 ∧ -2 ≤ a ∧ 2 < a) ∨ (0 ≤ s ∧ s ≤ 6 ∧ -2 ≤ a ∧ a ≤ 2 ∧ o < -1) ∨ (0 ≤ s ∧ s ≤ 6 ∧ -2 ≤ a ∧ a ≤ 2 ∧ -1 ≤ o ∧ 9 < o) ∨ (0 ≤ s ∧ s ≤ 6 ∧ -2 ≤ a ∧ a ≤ 2 ∧ -1 ≤ o ∧ o ≤ 9) := by omega
  rcases hc with h1 | ⟨h1, h2⟩ | ⟨h1, h2, h3⟩ | ⟨h1, h2, h3, h4⟩ | ⟨h1, h2, h3, h4, h5⟩ | ⟨h1, h2, h3, h4, h5, h6⟩ | ⟨h1, h2, h3, h4, h5, h6⟩
  iterate 6
    · have hr := Lib.hid (pitchCheckF_out (s := s) (a := a) (o := o) (by omega))
      go_enter Try.func26, Try.ntmps26
      go_wp2
      go_ret
      exact ⟨ret_int hr.out.symm, by go_grown⟩
  · go_enter Try.func26, Try.ntmps26
    go_wp2_with (go_at_call 32; refine (number _ _ _ _ (by omega) (by omega) (by omega) (by omega) (by omega) (by omega)).mono ?_; rintro e w' ⟨rfl, hb⟩)
    all_goals
      go_ret
      exact ⟨ret_int (by unfold pitchCheckF; rw [if_neg (by omega)]; split <;> omega), ((Below.refl _ _).alloc (Nat.le_refl _) _).trans (hb.mono (by simp))⟩

end Go.Proofs.Ytaklcnhenapckaa
