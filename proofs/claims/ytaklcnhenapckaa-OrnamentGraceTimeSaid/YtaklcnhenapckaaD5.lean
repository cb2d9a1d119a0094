/- The laws OrnamentGraces and OrnamentGraceTime. -/
import Derived.Test.YtaklcnhenapckaaD4
import Derived.Test.YtaklcnhenapckaaB6
namespace Go.Proofs.Ytaklcnhenapckaa
open Go.RowKit

theorem min10 (n : Nat) : ∃ m : Nat, (if (10 : Int) < (n : Int) then 10 else (n : Int)) = (m : Int) ∧ m ≤ n ∧ m ≤ 10 ∧ (0 < n → 0 < m) := by
  by_cases h : n ≤ 10
  · exact ⟨n, by rw [if_neg (by omega)], by omega, h, id⟩
  · exact ⟨10, by rw [if_pos (by omega)]; rfl, by omega, by omega, fun _ => by omega⟩

set_option maxHeartbeats 1000000 in
theorem lawGraces (l0 : List Gr) (n0 : Nat) (hl0 : l0.length = n0) (b off cap : Nat) (hcap : n0 ≤ cap) (s a o len : Int) (w : World) (hb : b < w.heap.size) (hr : RdG w b off n0 l0) (h0 : 0 < n0) :
    Calls Try.prog 8 #[.slice (some ⟨b, off, none⟩) n0 cap, pitchV s a o, .int .i64 len] w fun e w' => e = .returned (.bool true) ∧ Below w.heap.size w w' := by
  obtain ⟨n, em, hn0, hn, hpos⟩ := min10 n0
  have hpos := hpos h0
  have hl : (l0.take n).length = n := by rw [List.length_take]; omega
  have hR : RdG w b off n (l0.take n) := by
    intro k hk
    have e : gAt0 (l0.take n) k = gAt0 l0 k := by simp [gAt0, List.getD, hk]
    rw [e]
    exact hr k (by omega)
  generalize hL : l0.take n = l at hl hR
  clear hL hr hl0
  have hl := Lib.hid hl
  have hR := Lib.hid hR
  by_cases he : errGr l s a o len = 0
  · obtain ⟨hc, hp, l1, l2⟩ : checkG l = 0 ∧ pitchCheckF s a o = 0 ∧ 1 ≤ len ∧ len ≤ 4398046511104 := by
      unfold errGr at he
      split at he
      · omega
      · split at he
        · omega
        · split at he <;> omega
    generalize hN : graceNotes l (numberF s a o) (min (sumTo l n) (len / 2)) (sumTo l n) n = N
    have hNl : n = N.length := by rw [← hN, graceNotes_len]
    have HN := Lib.hid hN
    have HNl := Lib.hid hNl
    clear hN hNl
    generalize hT : min (sumTo l n) (len / 2) = taken
    have HT := Lib.hid hT
    clear hT
    have HC := Lib.hid (And.intro hc hp)
    clear hc hp he
    go_enter Try.func8, Try.ntmps8
    go_wp2_with fail
    refine (gracesO_ok l n hl.out b off cap s a o len _ (by simp; omega) (hR.out.below (B := w.heap.size) ((Below.refl _ _).alloc (Nat.le_refl _) _) hb) hpos hn HC.out.1 HC.out.2 l1 l2).mono ?_
    rintro e w1 ⟨g, cap1, rfl, ho, hb1⟩
    rw [HN.out] at ho
    rw [HT.out]
    obtain ⟨hc1, hf1⟩ := bcell hb1
    have hz1 : w.heap.size < w1.heap.size := by have := hb1.size; simp at this; omega
    have B1 := bstep ((Below.refl _ _).alloc (Nat.le_refl _) _) hb1
    go_wp2_with fail
    refine (gracesL_ok l n hl.out b off cap s a o len _ (by omega) (hR.out.below B1 hb) hpos hn HC.out.1 HC.out.2 l1 l2).mono ?_
    rintro e w2 ⟨g', cap2, rfl, ho', hb2⟩
    rw [HN.out] at ho'
    rw [HT.out]
    have B2 := bstep B1 hb2
    have r1 := Lib.hid ((rd3_of_own ho HNl.out).below hb2)
    have r2 := Lib.hid (rd3_of_own ho' HNl.out)
    clear ho ho'
    go_wp2_with fail
    refine (known _).mono ?_; rintro e w3 ⟨rfl, hb3⟩
    have r1' := Lib.hid (r1.out.below hb3)
    have r2' := Lib.hid (r2.out.below hb3)
    go_wp2_with fail
    refine (same_eq g g' cap1 cap2 n _ _ _ (by omega) w3 r1'.out r2'.out).mono ?_; rintro e w4 ⟨rfl, hb4⟩
    go_wp2_with fail
    go_ret
    exact ⟨rfl, bstep (bstep B2 hb3) hb4⟩
  · go_enter Try.func8, Try.ntmps8
    go_wp2_with fail
    refine (gracesO_bad l n hl.out b off cap s a o len _ (by simp; omega) (hR.out.below (B := w.heap.size) ((Below.refl _ _).alloc (Nat.le_refl _) _) hb) hpos hn he).mono ?_
    rintro e w1 ⟨rfl, hb1⟩
    obtain ⟨hc1, hf1⟩ := bcell hb1
    have hz1 : w.heap.size < w1.heap.size := by have := hb1.size; simp at this; omega
    have B1 := bstep ((Below.refl _ _).alloc (Nat.le_refl _) _) hb1
    go_wp2_with fail
    refine (gracesL_bad l n hl.out b off cap s a o len _ (by omega) (hR.out.below B1 hb) hpos hn he).mono ?_
    rintro e w2 ⟨rfl, hb2⟩
    have B2 := bstep B1 hb2
    go_wp2_with fail
    refine (known _).mono ?_; rintro e w3 ⟨rfl, hb3⟩
    go_wp2_with fail
    refine (same_nil _).mono ?_; rintro e w4 ⟨rfl, rfl⟩
    go_wp2_with fail
    go_ret
    exact ⟨rfl, bstep B2 hb3⟩

set_option maxHeartbeats 1000000 in
theorem lawGraces_nil (A : Option Addr) (cap : Nat) (s a o len : Int) (w : World) :
    Calls Try.prog 8 #[.slice A 0 cap, pitchV s a o, .int .i64 len] w fun e w' => e = .returned (.bool true) ∧ Below w.heap.size w w' := by
  go_enter Try.func8, Try.ntmps8
  go_wp2_with fail
  refine (gracesO_nil _ _ _ _ _ _ _).mono ?_
  rintro e w1 ⟨rfl, hb1⟩
  obtain ⟨hc1, hf1⟩ := bcell hb1
  have hz1 : w.heap.size < w1.heap.size := by have := hb1.size; simp at this; omega
  have B1 := bstep ((Below.refl _ _).alloc (Nat.le_refl _) _) hb1
  go_wp2_with fail
  refine (gracesL_nil _ _ _ _ _ _ _).mono ?_
  rintro e w2 ⟨rfl, hb2⟩
  have B2 := bstep B1 hb2
  go_wp2_with fail
  refine (known _).mono ?_; rintro e w3 ⟨rfl, hb3⟩
  go_wp2_with fail
  refine (same_nil _).mono ?_; rintro e w4 ⟨rfl, rfl⟩
  go_wp2_with fail
  go_ret
  exact ⟨rfl, bstep B2 hb3⟩
end Go.Proofs.Ytaklcnhenapckaa
