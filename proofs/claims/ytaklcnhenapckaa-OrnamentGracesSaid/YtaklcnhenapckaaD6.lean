/- The law OrnamentGraceTime. -/
import Derived.Test.YtaklcnhenapckaaD5
namespace Go.Proofs.Ytaklcnhenapckaa
open Go.RowKit

theorem graceNotes_get (l : List Gr) (base taken t : Int) (n k : Nat) (h : k < n) : (graceNotes l base taken t n).getD k (0, 0, 0) = graceNote l base taken t k := by
  unfold graceNotes; simp [List.getD, h]

set_option maxHeartbeats 2000000 in
theorem lawGraceTime (l0 : List Gr) (n0 : Nat) (hl0 : l0.length = n0) (b off cap : Nat) (hcap : n0 ≤ cap) (s a o len : Int) (w : World) (hb : b < w.heap.size) (hr : RdG w b off n0 l0) (h0 : 0 < n0) :
    Calls Try.prog 9 #[.slice (some ⟨b, off, none⟩) n0 cap, pitchV s a o, .int .i64 len] w fun e w' => e = .returned (.bool true) ∧ Below w.heap.size w w' := by
  obtain ⟨n, em, hn0, hn, hpos⟩ := min10 n0
  have hpos := hpos h0
  have hl : (l0.take n).length = n := by rw [List.length_take]; omega
  have hR : RdG w b off n (l0.take n) := by
    intro k hk
    have e : gAt0 (l0.take n) k = gAt0 l0 k := by simp [gAt0, List.getD, hk]
    rw [e]
    exact hr k (by omega)
  generalize hL : l0.take n = l at hl hR
  clear hL hr hl0
  have hl := Lib.hid hl
  have hR := Lib.hid hR
  by_cases he : errGr l s a o len = 0
  · obtain ⟨hc, hp, l1, l2⟩ : checkG l = 0 ∧ pitchCheckF s a o = 0 ∧ 1 ≤ len ∧ len ≤ 4398046511104 := by
      unfold errGr at he
      split at he
      · omega
      · split at he
        · omega
        · split at he <;> omega
    have tb := sumTo_bd l n
    generalize hT : min (sumTo l n) (len / 2) = taken
    have t0 : 0 ≤ taken := by omega
    have t1 : taken ≤ len / 2 := by omega
    have t2 : taken ≤ sumTo l n := by omega
    have C2 := Lib.hid (checkG_in hc).2
    have hnum := Lib.hid (numOr_in hp)
    have pb := (pitchCheckF_in hp).2.2.2.2.2.2
    have HT := Lib.hid hT
    have HC := Lib.hid (And.intro hc hp)
    have HP := Lib.hid hp
    clear hT hc hp he
    generalize hB : numberF s a o = base at *
    have HB := Lib.hid hB
    clear hB
    have d0 : decide (taken < 0) = false := decide_eq_false (by omega)
    have d1 : decide (len / 2 < taken) = false := decide_eq_false (by omega)
    go_enter Try.func9, Try.ntmps9
    go_wp2_with fail
    refine (gracesO_ok l n hl.out b off cap s a o len _ (by simp; omega) (hR.out.below (B := w.heap.size) ((Below.refl _ _).alloc (Nat.le_refl _) _) hb) hpos hn HC.out.1 HC.out.2 l1 l2).mono ?_
    rintro e w1 ⟨g, cap1, rfl, ho, hb1⟩
    rw [HT.out, HB.out] at ho
    rw [HT.out]
    obtain ⟨hc1, hf1⟩ := bcell hb1
    have hz1 : w.heap.size < w1.heap.size := by have := hb1.size; simp at this; omega
    have B1 := bstep ((Below.refl _ _).alloc (Nat.le_refl _) _) hb1
    have r1 := Lib.hid (rd3_of_own ho (graceNotes_len l base taken (sumTo l n) n).symm)
    clear ho
    go_wp2_with fail
    refine (known _).mono ?_; rintro e w3 ⟨rfl, hb3⟩
    have r3 := Lib.hid (r1.out.below hb3)
    obtain ⟨hc3, hf3⟩ := bcell hb3
    have hz3 : w.heap.size < w3.heap.size := by have := hb3.size; omega
    have B3 := bstep B1 hb3
    go_wp2_with fail
    refine (numberC _ _ _ _).mono ?_; rintro e w4 ⟨rfl, hb4⟩
    rw [HP.out, ← hnum.out]
    have r4 := Lib.hid (r3.out.below hb4)
    have B4 := bstep B3 hb4
    have hz4 := hb4.size
    go_wp2_with fail
    have z0 : (0 : Int) = sumTo l 0 * taken / sumTo l n := by simp [sumTo]
    go_loopw [10, 13] (fun at_ i wr => ∃ (k : Nat) (a : Int), k ≤ n ∧ i = .int .i64 k ∧ at_ = .int .i64 a ∧ Hid (a = sumTo l k * taken / sumTo l n) ∧ Below w4.heap.size w4 wr) (fun _ i _ => n - (intOf i).toNat)
    case atStart => exact ⟨0, 0, by omega, rfl, rfl, z0, Below.refl _ _⟩
    case round =>
      obtain ⟨k, x, hk, rfl, rfl, hx, hbel⟩ := hrel
      clear z0
      have hz := hbel.size
      have hbw : Below w.heap.size w wr := B4.trans (hbel.mono (by omega))
      by_cases hlt : k < n
      · obtain ⟨a1, a2, a3, a4, a5⟩ := (hR.out.below hbw hb) k hlt
        obtain ⟨x0, x1, x2⟩ := C2.out k (by rw [hl.out]; exact hlt)
        obtain ⟨c1, c2, c3⟩ := (r4.out.below hbel) k hlt
        have nb := (pitchCheckF_in x0).2.2.2.2.2.2
        have nm := Lib.hid (numOr_in x0)
        have X0 := Lib.hid x0
        have e := graceNotes_get l base taken (sumTo l n) n k hlt
        have c1' : wr.cell? ⟨g, k * 3, none⟩ = some (.int .i64 x) := by rw [c1, hx.out]; simp only [e]; rfl
        have c2' : wr.cell? ⟨g, k * 3 + 1, none⟩ = some (.int .i64 (sumTo l (k + 1) * taken / sumTo l n)) := by rw [c2]; simp only [e]; rfl
        have c3' : wr.cell? ⟨g, k * 3 + 2, none⟩ = some (.int .i64 (numberF (gAt0 l k).s (gAt0 l k).a (gAt0 l k).o - base)) := by rw [c3]; simp only [e]; rfl
        have hle : x ≤ sumTo l (k + 1) * taken / sumTo l n := by
          rw [hx.out]
          exact Int.ediv_le_ediv (by omega) (Int.mul_le_mul_of_nonneg_right (sumTo_mono l (Nat.le_succ k)) t0)
        have hy := Lib.hid (show sumTo l (k + 1) * taken / sumTo l n = sumTo l (k + 1) * taken / sumTo l n from rfl)
        clear c1 c2 c3 e x0
        generalize hyy : sumTo l (k + 1) * taken / sumTo l n = y at c2' hle
        have HY := Lib.hid hyy.symm
        clear hyy hy
        generalize (gAt0 l k).s = S at *
        generalize (gAt0 l k).a = A at *
        generalize (gAt0 l k).o = O at *
        have f1 : base + (numberF S A O - base) = numberF S A O := by omega
        have f2 : decide (y < x) = false := decide_eq_false (by omega)
        go_wp2_with fail
        refine (numberC _ _ _ _).mono ?_; rintro e w5 ⟨rfl, hb5⟩
        rw [X0.out, ← nm.out]
        have c1 := (hb5.cell (p := ⟨g, k * 3, none⟩) (World.block_lt_of_cell? wr _ c1')).trans c1'
        have c2 := (hb5.cell (p := ⟨g, k * 3 + 1, none⟩) (World.block_lt_of_cell? wr _ c2')).trans c2'
        have c3 := (hb5.cell (p := ⟨g, k * 3 + 2, none⟩) (World.block_lt_of_cell? wr _ c3')).trans c3'
        have B5 : Below w4.heap.size w4 w5 := hbel.trans (hb5.mono hz)
        clear c1' c2' c3'
        go_wp2_with fail
        go_roundw
        case rel => exact ⟨k + 1, y, by omega, by go_num, rfl, HY.out, B5⟩
        case measure => simp [intOf]; omega
      · obtain rfl : k = n := by omega
        have hx2 : x = taken := by rw [hx.out, Int.mul_comm]; exact Int.mul_ediv_cancel _ (by omega)
        subst hx2
        go_wp2_with fail
        go_ret
        exact ⟨rfl, hbw⟩
  · have h1 : (errGr l s a o len != 0) = true := by simpa using he
    go_enter Try.func9, Try.ntmps9
    go_wp2_with fail
    refine (gracesO_bad l n hl.out b off cap s a o len _ (by simp; omega) (hR.out.below (B := w.heap.size) ((Below.refl _ _).alloc (Nat.le_refl _) _) hb) hpos hn he).mono ?_
    rintro e w1 ⟨rfl, hb1⟩
    clear he
    have B1 := bstep ((Below.refl _ _).alloc (Nat.le_refl _) _) hb1
    go_wp2_with fail
    refine (known _).mono ?_; rintro e w3 ⟨rfl, hb3⟩
    go_wp2_with fail
    refine (known _).mono ?_; rintro e w4 ⟨rfl, hb4⟩
    go_wp2_with fail
    go_ret
    exact ⟨rfl, bstep (bstep B1 hb3) hb4⟩

set_option maxHeartbeats 2000000 in
theorem lawGraceTime_nil (A : Option Addr) (cap : Nat) (s a o len : Int) (w : World) :
    Calls Try.prog 9 #[.slice A 0 cap, pitchV s a o, .int .i64 len] w fun e w' => e = .returned (.bool true) ∧ Below w.heap.size w w' := by
  by_cases he : errGr [] s a o len = 0
  · obtain ⟨hp, l1, l2⟩ : pitchCheckF s a o = 0 ∧ 1 ≤ len ∧ len ≤ 4398046511104 := by
      unfold errGr at he
      rw [if_neg (show ¬ checkG [] ≠ 0 by simp [checkG, checkL])] at he
      split at he
      · omega
      · split at he <;> omega
    have HE := Lib.hid he
    have HP := Lib.hid hp
    have hnum := Lib.hid (numOr_in hp)
    clear he hp
    have d1 : decide (len / 2 < 0) = false := decide_eq_false (by omega)
    go_enter Try.func9, Try.ntmps9
    go_wp2_with fail
    refine (gracesO_nil _ _ _ _ _ _ _).mono ?_
    rintro e w1 ⟨rfl, hb1⟩
    rw [HE.out]
    obtain ⟨hc1, hf1⟩ := bcell hb1
    have hz1 : w.heap.size < w1.heap.size := by have := hb1.size; simp at this; omega
    have B1 := bstep ((Below.refl _ _).alloc (Nat.le_refl _) _) hb1
    go_wp2_with fail
    refine (known _).mono ?_; rintro e w3 ⟨rfl, hb3⟩
    obtain ⟨hc3, hf3⟩ := bcell hb3
    have hz3 : w.heap.size < w3.heap.size := by have := hb3.size; omega
    have B3 := bstep B1 hb3
    go_wp2_with fail
    refine (numberC _ _ _ _).mono ?_; rintro e w4 ⟨rfl, hb4⟩
    rw [HP.out, ← hnum.out]
    have B4 := bstep B3 hb4
    go_wp2_with fail
    go_rounds 1
    go_ret
    exact ⟨rfl, B4⟩
  · have h1 : (errGr [] s a o len != 0) = true := by simpa using he
    go_enter Try.func9, Try.ntmps9
    go_wp2_with fail
    refine (gracesO_nil _ _ _ _ _ _ _).mono ?_
    rintro e w1 ⟨rfl, hb1⟩
    clear he
    have B1 := bstep ((Below.refl _ _).alloc (Nat.le_refl _) _) hb1
    go_wp2_with fail
    refine (known _).mono ?_; rintro e w3 ⟨rfl, hb3⟩
    go_wp2_with fail
    refine (known _).mono ?_; rintro e w4 ⟨rfl, hb4⟩
    go_wp2_with fail
    go_ret
    exact ⟨rfl, bstep (bstep B1 hb3) hb4⟩
end Go.Proofs.Ytaklcnhenapckaa
