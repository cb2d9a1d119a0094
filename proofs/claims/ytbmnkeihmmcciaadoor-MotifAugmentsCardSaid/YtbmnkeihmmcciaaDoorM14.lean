/- The law MotifTexts, and the law MotifParses. -/
import Derived.Test.YtbmnkeihmmcciaaDoorM13
namespace Go.Proofs.YtbmnkeihmmcciaaDoor
open Go.RowKit Go.Sort

theorem nth_take {l : List Tone} {p k : Nat} (h : k < p) : nth (l.take p) k = nth l k := by
  unfold nth; rw [List.getD_eq_getElem?_getD, List.getD_eq_getElem?_getD, List.getElem?_take_of_lt h]
theorem SlT.take {w : World} {A : Option Addr} {l : List Tone} (h : SlT w A l) (p : Nat) : SlT w A (l.take p) := by
  rcases h with rfl | ⟨h0, b, off, rfl, hb, hr⟩
  · exact .inl (by simp)
  · refine SlT.intro hb fun k hk => ?_
    rw [List.length_take] at hk
    rw [nth_take (by omega)]
    exact hr k (by omega)

set_option maxHeartbeats 2000000 in
theorem textsGood (A : Option Addr) (n c : Nat) (l : List Tone) (w : World) (he : Env w) (hn : l.length = min n 70) (hcut : ∀ w, Calls Tryd.prog 6 #[.slice A n c] w fun r w' => r = .returned (.slice A l.length c) ∧ w' = w) (hc : checkL l = 0) (h : SlT w A l) :
    Calls Tryd.prog 3 #[.slice A n c] w fun r w' => r = .returned (.bool true) ∧ Below w.heap.size w w' := by
  have ht := fun W he h => textGood A c l W he hc h
  have hk := known
  have hck := fun W h => checkC A c l W (by omega) h
  have hbd := fun W h => badC A c l W (by omega) h
  have hp := fun W he => parseGood l W he hc
  have hm := fun W he h => textM A c l W he (checkL_zero hc).2.1 (checkL_zero hc).2.2 h
  have hs := fun B d W h1 h2 => sameC B A d c l W (by omega) h1 h2
  rw [hc] at hck hbd
  clear hc hn
  generalize textF l = T at *
  generalize l.length = m at *
  go_enter Tryd.func3, Tryd.ntmps3
  go_wp2_with fail
  refine (hcut w).mono ?_
  rintro e w0 ⟨rfl, rfl⟩
  go_wp2_with fail
  refine (ht w0 he h).mono ?_
  rintro e w1 ⟨rfl, hb1⟩
  have h := h.below hb1
  have he1 := he.below hb1
  go_wp2_with fail
  refine (hk w1 he1).mono ?_
  rintro e w2 ⟨rfl, hb2⟩
  have h := h.below hb2
  have he2 := he1.below hb2
  have B2 := hb1.trans (hb2.mono hb1.size)
  go_wp2_with fail
  refine (hck w2 h).mono ?_
  rintro e w3 ⟨rfl, hb3⟩
  have h := h.below hb3
  have he3 := he2.below hb3
  have B3 := B2.trans (hb3.mono B2.size)
  go_wp2_with fail
  refine (hbd w3 h).mono ?_
  rintro e w4 ⟨rfl, hb4⟩
  have h := h.below hb4
  have he4 := he3.below hb4
  have B4 := B3.trans (hb4.mono B3.size)
  go_wp2_with fail
  refine (hbd w4 h).mono ?_
  rintro e w5 ⟨rfl, hb5⟩
  have h := h.below hb5
  have he5 := he4.below hb5
  have B5 := B4.trans (hb5.mono B4.size)
  go_wp2_with fail
  refine (hp w5 he5).mono ?_
  rintro e w6 ⟨⟨A6, c6, rfl, h6⟩, hb6⟩
  have h := h.below hb6
  have he6 := he5.below hb6
  have B6 := B5.trans (hb6.mono B5.size)
  go_wp2_with fail
  refine (hm w6 he6 h).mono ?_
  rintro e w7 ⟨rfl, hb7⟩
  have h := h.below hb7
  have h6 := h6.below hb7
  have B7 := B6.trans (hb7.mono B6.size)
  go_wp2_with fail
  refine (hs A6 c6 w7 h6 h).mono ?_
  rintro e w8 ⟨rfl, hb8⟩
  go_wp2_with fail
  go_ret
  exact ⟨rfl, B7.trans (hb8.mono B7.size)⟩

set_option maxHeartbeats 2000000 in
theorem textsBad (A : Option Addr) (n c : Nat) (l : List Tone) (w : World) (he : Env w) (hn : l.length = min n 70) (hcut : ∀ w, Calls Tryd.prog 6 #[.slice A n c] w fun r w' => r = .returned (.slice A l.length c) ∧ w' = w) (hc : checkL l ≠ 0) (h : SlT w A l) :
    Calls Tryd.prog 3 #[.slice A n c] w fun r w' => r = .returned (.bool true) ∧ Below w.heap.size w w' := by
  have ht := fun W h => textBad A c l W (by omega) hc h
  have hk := known
  have hck := fun W h => checkC A c l W (by omega) h
  have hbd := fun W h => badC A c l W (by omega) h
  have dc : (checkL l != 0) = true := by simpa using hc
  clear hc hn
  generalize checkL l = ck at *
  generalize l.length = m at *
  go_enter Tryd.func3, Tryd.ntmps3
  go_wp2_with fail
  refine (hcut w).mono ?_
  rintro e w0 ⟨rfl, rfl⟩
  go_wp2_with fail
  refine (ht w0 h).mono ?_
  rintro e w1 ⟨rfl, hb1⟩
  have h := h.below hb1
  have he1 := he.below hb1
  go_wp2_with fail
  refine (hk w1 he1).mono ?_
  rintro e w2 ⟨rfl, hb2⟩
  have h := h.below hb2
  have he2 := he1.below hb2
  have B2 := hb1.trans (hb2.mono hb1.size)
  go_wp2_with fail
  refine (hck w2 h).mono ?_
  rintro e w3 ⟨rfl, hb3⟩
  have h := h.below hb3
  have he3 := he2.below hb3
  have B3 := B2.trans (hb3.mono B2.size)
  go_wp2_with fail
  refine (hbd w3 h).mono ?_
  rintro e w4 ⟨rfl, hb4⟩
  have h := h.below hb4
  have he4 := he3.below hb4
  have B4 := B3.trans (hb4.mono B3.size)
  go_wp2_with fail
  refine (hbd w4 h).mono ?_
  rintro e w5 ⟨rfl, hb5⟩
  have B5 := B4.trans (hb5.mono B4.size)
  go_wp2_with fail
  go_ret
  exact ⟨rfl, B5⟩

theorem textsC (A : Option Addr) (c : Nat) (l : List Tone) (w : World) (he : Env w) (hnc : l.length ≤ c) (hc : c ≤ 9223372036854775807) (hA : A = none → c = 0) (h : SlT w A l) :
    Calls Tryd.prog 3 #[.slice A l.length c] w fun r w' => r = .returned (.bool true) ∧ Below w.heap.size w w' := by
  have e : (l.take 70).length = min l.length 70 := by rw [List.length_take]; omega
  have hcut := fun w => cutC A l.length c w hnc hc hA
  rw [← e] at hcut
  by_cases h0 : checkL (l.take 70) = 0
  · exact textsGood A l.length c (l.take 70) w he e hcut h0 (h.take 70)
  · exact textsBad A l.length c (l.take 70) w he e hcut h0 (h.take 70)
end Go.Proofs.YtbmnkeihmmcciaaDoor
