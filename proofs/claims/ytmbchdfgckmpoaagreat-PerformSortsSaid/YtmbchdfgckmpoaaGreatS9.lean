/- rotateCmpFunc at played notes: two neighbouring blocks of a row change places. -/
import Derived.Test.YtmbchdfgckmpoaaGreatS8
namespace Go.Proofs.YtmbchdfgckmpoaaGreat
open Go.RowKit Go.Sort

set_option maxHeartbeats 8000000 in
set_option maxRecDepth 20000 in
theorem rotateC (L : List Ply) (g cap n a m b base : Nat) (f : Value) (w : World) (hown : w.ownsRow base 30 7 (.slice (some ⟨g, 0, none⟩) n cap) n (cellsY L)) (hbase : base ≤ g) (hn : L.length = n) (h30 : n ≤ 1000) (ham : a < m) (hmb : m < b) (hbn : b ≤ n) :
    Calls Tryz.prog 128 #[.slice (some ⟨g, 0, none⟩) n cap, .int .i64 a, .int .i64 m, .int .i64 b, f] w fun r w' => r = .returned (.tuple #[]) ∧ ∃ L', (∀ q, nth L' q = rotN (nth L) a m b q) ∧ L.Perm L' ∧ w'.ownsRow base 30 7 (.slice (some ⟨g, 0, none⟩) n cap) n (cellsY L') ∧ Below base w w' := by
  have hs := fun (M : List Ply) (x y z : Nat) v h1 h2 h3 h4 => swapRangeC M g cap n x y z base f v h1 hbase h2 h30 h3 h4
  go_enter Tryz.func128, Tryz.ntmps128
  go_wp2_with fail
  go_loopw [10, 11] (fun iv jv wr => ∃ (i j : Nat) (M : List Ply), iv = .int .i64 i ∧ jv = .int .i64 j ∧ 0 < i ∧ 0 < j ∧ a + i ≤ m ∧ m + j ≤ b ∧ Aside (∀ q, rotN (nth M) (m - i) m (m + j) q = rotN (nth L) a m b q) ∧ Aside (L.Perm M) ∧ Aside (wr.ownsRow base 30 7 (.slice (some ⟨g, 0, none⟩) n cap) n (cellsY M)) ∧ Below base w wr) (fun iv jv _ => (intOf iv).toNat + (intOf jv).toNat)
  case atStart => exact ⟨m - a, b - m, L, by congr 1; omega, by congr 1; omega, by omega, by omega, by omega, by omega, (show Aside _ from fun q => by rw [show m - (m - a) = a by omega, show m + (b - m) = b by omega]), (show Aside _ from .refl _), (show Aside _ from hown), Below.refl _ _⟩
  case round =>
    obtain ⟨i, j, M, rfl, rfl, hi, hj, hai, hmj, hA, hP, hO, hB⟩ := hrel
    clear hown
    have hA := hA.out
    have hP := hP.out
    have hO := hO.out
    have hln := hP.length_eq
    have e1 : ((m - i : Nat) : Int) = (m : Int) - (i : Int) := by omega
    by_cases hij : i = j
    · subst hij
      have hc := hs M (m - i) m i _ hO (by omega) (by omega) (by omega)
      rw [e1] at hc
      have HX := Lib.hid (And.intro hA (And.intro hP hO))
      clear hA hP hO hs
      go_wp2_with fail
      refine hc.mono ?_
      rintro r w2 ⟨rfl, M2, h1, h2, h3, h4⟩
      go_wp2_with fail
      go_end0
      obtain ⟨k1, k2, k3⟩ := HX.out
      exact ⟨rfl, M2, fun q => (rot_end h1 hi (by omega) q).trans (k1 q), k2.trans h2, h3, hB.trans h4⟩
    · have hne : ((i : Int) != (j : Int)) = true := by simp; omega
      by_cases hlt : j < i
      · have hgt : decide ((i : Int) > (j : Int)) = true := decide_eq_true (by omega)
        have hc := hs M (m - i) m j _ hO (by omega) (by omega) (by omega)
        rw [e1] at hc
        have HX := Lib.hid (And.intro hA (And.intro hP hO))
        clear hA hP hO hs
        go_wp2_with fail
        refine hc.mono ?_
        rintro r w2 ⟨rfl, M2, h1, h2, h3, h4⟩
        go_wp2_with fail
        go_roundw
        case rel => obtain ⟨k1, k2, k3⟩ := HX.out; exact ⟨i - j, j, M2, by congr 1; omega, rfl, by omega, hj, by omega, hmj, (show Aside _ from fun q => (rot_left h1 hj hlt (by omega) q).trans (k1 q)), (show Aside _ from k2.trans h2), (show Aside _ from h3), hB.trans h4⟩
        case measure => simp [intOf]; omega
      · have hgt : decide ((i : Int) > (j : Int)) = false := decide_eq_false (by omega)
        have hc := hs M (m - i) (m + j - i) i _ hO (by omega) (by omega) (by omega)
        have e2 : ((m + j - i : Nat) : Int) = (m : Int) + (j : Int) - (i : Int) := by omega
        rw [e1, e2] at hc
        have HX := Lib.hid (And.intro hA (And.intro hP hO))
        clear hA hP hO hs
        go_wp2_with fail
        refine hc.mono ?_
        rintro r w2 ⟨rfl, M2, h1, h2, h3, h4⟩
        go_wp2_with fail
        go_roundw
        case rel => obtain ⟨k1, k2, k3⟩ := HX.out; exact ⟨i, j - i, M2, rfl, by congr 1; omega, hi, by omega, hai, by omega, (show Aside _ from fun q => (rot_right h1 hi (by omega) (by omega) q).trans (k1 q)), (show Aside _ from k2.trans h2), (show Aside _ from h3), hB.trans h4⟩
        case measure => simp [intOf]; omega
end Go.Proofs.YtmbchdfgckmpoaaGreat
