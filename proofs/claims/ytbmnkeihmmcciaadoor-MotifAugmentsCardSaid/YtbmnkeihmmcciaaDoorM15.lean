/- The law MotifParses. -/
import Derived.Test.YtbmnkeihmmcciaaDoorM13
namespace Go.Proofs.YtbmnkeihmmcciaaDoor
open Go.RowKit Go.Sort

set_option maxHeartbeats 2000000 in
theorem parsesWalk (S : ByteArray) (m : Nat) (T : List UInt8) (w : World) (he : Env w) (hT : T.length ≤ 5000) (hm : min (S.size : Int) 2000 = m) (_hm2 : (if (2000 : Int) < S.size then (2000 : Int) else S.size) = m)
    (hcut : ∀ w, (Instr.slice 9 (.string S) none (some (.int .i64 (m : Int))) none).run Tryd.prog w = .ok (.string (bs T)) w) :
    Calls Tryd.prog 4 #[.string S] w fun r w' => r = .returned (.bool true) ∧ Below w.heap.size w w' := by
  have hp := parseT_C T hT w he
  have hk := known
  have hbd := fun A c l W hl h => badC A c l W hl h
  have htm := fun A c l W he h1 h2 h => textM A c l W he h1 h2 h
  clear hT
  go_enter Tryd.func4, Tryd.ntmps4
  go_wp2_with fail
  refine hp.mono ?_
  rintro e w1 ⟨hr, hb1⟩
  have he1 := he.below hb1
  rcases hr with ⟨A, c, L, rfl, hsl, hc, ht⟩ | ⟨rfl, hno⟩
  · obtain ⟨l1, l2, l3⟩ := checkL_zero hc
    have hbd := fun W h => hbd A c L W (by omega) h
    have htm := fun W he h => htm A c L W he l2 l3 h
    rw [hc] at hbd
    rw [ht] at htm
    clear hc ht l1 l2 l3
    generalize L.length = n at *
    go_wp2_with fail
    refine (hk w1 he1).mono ?_
    rintro e w2 ⟨rfl, hb2⟩
    have hsl := hsl.below hb2
    have he2 := he1.below hb2
    have B2 := hb1.trans (hb2.mono hb1.size)
    go_wp2_with fail
    refine (hbd w2 hsl).mono ?_
    rintro e w3 ⟨rfl, hb3⟩
    have hsl := hsl.below hb3
    have he3 := he2.below hb3
    have B3 := B2.trans (hb3.mono B2.size)
    go_wp2_with fail
    refine (htm w3 he3 hsl).mono ?_
    rintro e w4 ⟨rfl, hb4⟩
    go_wp2_with fail
    go_ret
    exact ⟨rfl, B3.trans (hb4.mono B3.size)⟩
  · clear hno
    go_wp2_with fail
    refine (hk w1 he1).mono ?_
    rintro e w2 ⟨rfl, hb2⟩
    go_wp2_with fail
    go_ret
    exact ⟨rfl, hb1.trans (hb2.mono hb1.size)⟩

theorem parsesC (S : ByteArray) (w : World) (he : Env w) : Calls Tryd.prog 4 #[.string S] w fun r w' => r = .returned (.bool true) ∧ Below w.heap.size w w' := by
  refine parsesWalk S (min S.size 2000) (S.data.toList.take (min S.size 2000)) w he (by rw [List.length_take]; omega) (by omega) ?_ fun w => ?_
  · by_cases h : S.size ≤ 2000
    · rw [if_neg (by omega), Nat.min_eq_left h]
    · rw [if_pos (by omega), Nat.min_eq_right (by omega)]; rfl
  · have e : S.extract 0 (min S.size 2000) = bs (S.data.toList.take (min S.size 2000)) := by
      apply ByteArray.ext
      apply Array.toList_inj.1
      rw [Lib.extract_data]
      simp
    have h1 : min S.size 2000 ≤ S.size := Nat.min_le_left _ _
    generalize min S.size 2000 = m at *
    have h2 : ¬ S.size < m := by omega
    simp [go_sem, e]
    exact fun h => absurd h h2
end Go.Proofs.YtbmnkeihmmcciaaDoor
