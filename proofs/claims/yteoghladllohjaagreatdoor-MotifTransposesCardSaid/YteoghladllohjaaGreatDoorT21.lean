/- The law MotifTransposes returns true. -/
import Derived.Test.YteoghladllohjaaGreatDoorT17
import Derived.Test.YteoghladllohjaaGreatDoorT18
import Derived.Test.YteoghladllohjaaGreatDoorT19
import Derived.Test.YteoghladllohjaaGreatDoorT20
namespace Go.Proofs.YteoghladllohjaaGreatDoor
open Go.RowKit Go.Shelf Go.Sort

theorem nth_take {l : List Tone} {p k : Nat} (h : k < p) : nth (l.take p) k = nth l k := by
  unfold nth; rw [List.getD_eq_getElem?_getD, List.getD_eq_getElem?_getD, List.getElem?_take_of_lt h]
theorem SlT.take {w : World} {A : Option Addr} {l : List Tone} (h : SlT w A l) (p : Nat) : SlT w A (l.take p) := by
  rcases h with rfl | ⟨h0, b, off, rfl, hb, hr⟩
  · exact .inl (by simp)
  · refine SlT.intro hb fun k hk => ?_
    rw [List.length_take] at hk
    rw [nth_take (by omega)]
    exact hr k (by omega)

theorem transposesC (A : Option Addr) (c : Nat) (l : List Tone) (t m s a o : Int) (w : World) (he : Env w) (hnc : l.length ≤ c) (hc : c ≤ 9223372036854775807) (hA : A = none → c = 0) (h : SlT w A l) :
    Calls Tryz.prog 3 #[.slice A l.length c, .agg #[.int .i64 t, .int .i64 m], .agg #[.int .i64 s, .int .i64 a, .int .i64 o]] w fun r w' => r = .returned (.bool true) ∧ Below w.heap.size w w' := by
  have e : (l.take 70).length = min l.length 70 := by rw [List.length_take]; omega
  have hcut := fun w => cutC A l.length c w hnc hc hA
  rw [← e] at hcut
  by_cases h0 : checkL (l.take 70) = 0
  · by_cases hi : ivOk t m
    · by_cases hx : pitchCheckF s a o = 0
      · exact lawGoodC A l.length c (l.take 70) t m ⟨s, a, o⟩ w he e hcut h0 hi hx (h.take 70)
      · exact lawGoodD A l.length c (l.take 70) t m ⟨s, a, o⟩ w he e hcut h0 hi hx (h.take 70)
    · by_cases hx : pitchCheckF s a o = 0
      · exact lawGoodE A l.length c (l.take 70) t m ⟨s, a, o⟩ w he e hcut h0 hi hx (h.take 70)
      · exact lawGoodF A l.length c (l.take 70) t m ⟨s, a, o⟩ w he e hcut h0 hi hx (h.take 70)
  · by_cases hn : (l.take 70).length = 0
    · exact lawBad0 A l.length c (l.take 70) t m ⟨s, a, o⟩ w he e hcut h0 hn (h.take 70)
    · exact lawBad1 A l.length c (l.take 70) t m ⟨s, a, o⟩ w he e hcut h0 (by omega) (h.take 70)
end Go.Proofs.YteoghladllohjaaGreatDoor
