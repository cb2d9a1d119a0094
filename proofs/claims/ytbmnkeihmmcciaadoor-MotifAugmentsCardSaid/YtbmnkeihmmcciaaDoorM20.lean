/- The law MotifAugments. -/
import Derived.Test.YtbmnkeihmmcciaaDoorM19
import Derived.Test.YtbmnkeihmmcciaaDoorM14
namespace Go.Proofs.YtbmnkeihmmcciaaDoor
open Go.RowKit Go.Sort

set_option maxHeartbeats 4000000 in
theorem augmentsBad (A : Option Addr) (n c : Nat) (l : List Tone) (num den : Int) (w : World) (he : Env w) (hn : l.length = min n 70) (hcut : ∀ w, Calls Tryd.prog 6 #[.slice A n c] w fun r w' => r = .returned (.slice A l.length c) ∧ w' = w) (hc : checkL l ≠ 0) (h : SlT w A l) :
    Calls Tryd.prog 5 #[.slice A n c, .int .i64 num, .int .i64 den] w fun r w' => r = .returned (.bool true) ∧ Below w.heap.size w w' := by
  have hB : Below w.heap.size w ((w.alloc (.cells #[.int .i64 num] 3)).alloc (.cells #[.int .i64 den] 3)) := ((Below.refl _ w).alloc (Nat.le_refl _) _).alloc (by simp) _
  have h := h.below hB
  have he := he.below hB
  have hk := known
  have cn : ((w.alloc (.cells #[.int .i64 num] 3)).alloc (.cells #[.int .i64 den] 3)).cell? ⟨w.heap.size, 0, none⟩ = some (.int .i64 num) := by simp [go_sem]
  have cd : ((w.alloc (.cells #[.int .i64 num] 3)).alloc (.cells #[.int .i64 den] 3)).cell? ⟨w.heap.size + 1, 0, none⟩ = some (.int .i64 den) := by simp [go_sem]
  have zv : w.heap.size + 2 ≤ ((w.alloc (.cells #[.int .i64 num] 3)).alloc (.cells #[.int .i64 den] 3)).heap.size := by simp
  have ha := fun W h => augBad A c l num den W (by omega) hc h
  have hbd := fun W h => badC A c l W (by omega) h
  have dc : (checkL l != 0) = true := by simpa using hc
  have dc2 : (checkL l == 0) = false := by simpa using hc
  clear hc hn
  generalize checkL l = ck at *
  generalize l.length = m at *
  go_enter Tryd.func5, Tryd.ntmps5
  go_upto_region 1 with (fail)
  generalize ((w.alloc (.cells #[.int .i64 num] 3)).alloc (.cells #[.int .i64 den] 3)) = v at *
  go_wp2_with fail
  refine (hcut v).mono ?_
  rintro e w0 ⟨rfl, rfl⟩
  go_wp2_with fail
  refine (ha _ h).mono ?_
  rintro e w1 ⟨rfl, hb1⟩
  have h := h.below hb1
  have he1 := he.below hb1
  have B1 := hB.trans (hb1.mono hB.size)
  go_wp2_with fail
  refine (hk w1 he1).mono ?_
  rintro e w2 ⟨rfl, hb2⟩
  have h := h.below hb2
  have B2 := B1.trans (hb2.mono B1.size)
  have V2 := hb1.trans (hb2.mono hb1.size)
  go_wp2_with fail
  refine (hbd w2 h).mono ?_
  rintro e w3 ⟨rfl, hb3⟩
  have B3 := B2.trans (hb3.mono B2.size)
  have V3 := V2.trans (hb3.mono V2.size)
  have cn3 := (V3.cell (p := ⟨w.heap.size, 0, none⟩) (by show w.heap.size < _; omega)).trans cn
  have cd3 := (V3.cell (p := ⟨w.heap.size + 1, 0, none⟩) (by show w.heap.size + 1 < _; omega)).trans cd
  go_wp2_with fail
  go_ret
  exact ⟨rfl, B3⟩

set_option maxHeartbeats 8000000 in
theorem augmentsRange (A : Option Addr) (n c : Nat) (l : List Tone) (num den : Int) (w : World) (he : Env w) (hn : l.length = min n 70) (hcut : ∀ w, Calls Tryd.prog 6 #[.slice A n c] w fun r w' => r = .returned (.slice A l.length c) ∧ w' = w) (hc : checkL l = 0) (hr : num < 1 ∨ 64 < num ∨ den < 1 ∨ 64 < den) (h : SlT w A l) :
    Calls Tryd.prog 5 #[.slice A n c, .int .i64 num, .int .i64 den] w fun r w' => r = .returned (.bool true) ∧ Below w.heap.size w w' := by
  have hB : Below w.heap.size w ((w.alloc (.cells #[.int .i64 num] 3)).alloc (.cells #[.int .i64 den] 3)) := ((Below.refl _ w).alloc (Nat.le_refl _) _).alloc (by simp) _
  have h := h.below hB
  have he := he.below hB
  have hk := known
  have cn : ((w.alloc (.cells #[.int .i64 num] 3)).alloc (.cells #[.int .i64 den] 3)).cell? ⟨w.heap.size, 0, none⟩ = some (.int .i64 num) := by simp [go_sem]
  have cd : ((w.alloc (.cells #[.int .i64 num] 3)).alloc (.cells #[.int .i64 den] 3)).cell? ⟨w.heap.size + 1, 0, none⟩ = some (.int .i64 den) := by simp [go_sem]
  have zv : w.heap.size + 2 ≤ ((w.alloc (.cells #[.int .i64 num] 3)).alloc (.cells #[.int .i64 den] 3)).heap.size := by simp
  have ha := fun W h => augRange A c l num den W hc hr h
  have hbd := fun W h => badC A c l W (by omega) h
  rw [hc] at hbd
  have hr : num < 1 ∨ (1 ≤ num ∧ 64 < num) ∨ (1 ≤ num ∧ num ≤ 64 ∧ den < 1) ∨ (1 ≤ num ∧ num ≤ 64 ∧ 1 ≤ den ∧ 64 < den) := by omega
  clear hc hn
  generalize l.length = m at *
  rcases hr with h1 | ⟨h1, h2⟩ | ⟨h1, h2, h3⟩ | ⟨h1, h2, h3, h4⟩
  all_goals
    go_enter Tryd.func5, Tryd.ntmps5
    go_upto_region 1 with (fail)
    generalize ((w.alloc (.cells #[.int .i64 num] 3)).alloc (.cells #[.int .i64 den] 3)) = v at *
    go_wp2_with fail
    refine (hcut v).mono ?_
    rintro e w0 ⟨rfl, rfl⟩
    go_wp2_with fail
    refine (ha _ h).mono ?_
    rintro e w1 ⟨rfl, hb1⟩
    have h := h.below hb1
    have he1 := he.below hb1
    have B1 := hB.trans (hb1.mono hB.size)
    go_wp2_with fail
    refine (hk w1 he1).mono ?_
    rintro e w2 ⟨rfl, hb2⟩
    have h := h.below hb2
    have B2 := B1.trans (hb2.mono B1.size)
    have V2 := hb1.trans (hb2.mono hb1.size)
    go_wp2_with fail
    refine (hbd w2 h).mono ?_
    rintro e w3 ⟨rfl, hb3⟩
    have B3 := B2.trans (hb3.mono B2.size)
    have V3 := V2.trans (hb3.mono V2.size)
    have cn3 := (V3.cell (p := ⟨w.heap.size, 0, none⟩) (by show w.heap.size < _; omega)).trans cn
    have cd3 := (V3.cell (p := ⟨w.heap.size + 1, 0, none⟩) (by show w.heap.size + 1 < _; omega)).trans cd
    go_wp2_with fail
    go_ret
    exact ⟨rfl, B3⟩

set_option maxHeartbeats 8000000 in
theorem augmentsErr (A : Option Addr) (n c : Nat) (l : List Tone) (num den : Int) (w : World) (he : Env w) (hn : l.length = min n 70) (hcut : ∀ w, Calls Tryd.prog 6 #[.slice A n c] w fun r w' => r = .returned (.slice A l.length c) ∧ w' = w) (hc : checkL l = 0) (h1 : 1 ≤ num) (h2 : num ≤ 64) (h3 : 1 ≤ den) (h4 : den ≤ 64) (hz : augErr num den l ≠ 0) (h : SlT w A l) :
    Calls Tryd.prog 5 #[.slice A n c, .int .i64 num, .int .i64 den] w fun r w' => r = .returned (.bool true) ∧ Below w.heap.size w w' := by
  have hB : Below w.heap.size w ((w.alloc (.cells #[.int .i64 num] 3)).alloc (.cells #[.int .i64 den] 3)) := ((Below.refl _ w).alloc (Nat.le_refl _) _).alloc (by simp) _
  have h := h.below hB
  have he := he.below hB
  have hk := known
  have cn : ((w.alloc (.cells #[.int .i64 num] 3)).alloc (.cells #[.int .i64 den] 3)).cell? ⟨w.heap.size, 0, none⟩ = some (.int .i64 num) := by simp [go_sem]
  have cd : ((w.alloc (.cells #[.int .i64 num] 3)).alloc (.cells #[.int .i64 den] 3)).cell? ⟨w.heap.size + 1, 0, none⟩ = some (.int .i64 den) := by simp [go_sem]
  have zv : w.heap.size + 2 ≤ ((w.alloc (.cells #[.int .i64 num] 3)).alloc (.cells #[.int .i64 den] 3)).heap.size := by simp
  have ha : ∀ W, SlT W A l → Calls Tryd.prog 14 #[.slice A l.length c, .int .i64 num, .int .i64 den] W fun r w' => r = .returned (.tuple #[.slice none 0 0, .int .i64 (augErr num den l)]) ∧ Below W.heap.size W w' := fun W h => (augC A c l num den W hc h1 h2 h3 h4 h).mono fun _ _ ⟨e, hb⟩ => ⟨e.2 hz, hb⟩
  have hch : ∀ W, SlT W A l → W.cell? ⟨w.heap.size, 0, none⟩ = some (.int .i64 num) → W.cell? ⟨w.heap.size + 1, 0, none⟩ = some (.int .i64 den) → w.heap.size + 2 ≤ W.heap.size → Calls Tryd.prog 15 #[.slice A l.length c, .func (.func 16) #[] #[.pointer (some ⟨w.heap.size, 0, none⟩), .pointer (some ⟨w.heap.size + 1, 0, none⟩)]] W fun r w' => r = .returned (.tuple #[.slice none 0 0, .int .i64 (augErr num den l)]) ∧ Below W.heap.size W w' := fun W h a b z => (changeC A c l _ _ num den W hc h1 h2 h3 h4 h a b (by omega) (by omega)).mono fun _ _ ⟨e, hb⟩ => ⟨e.2 hz, hb⟩
  have hbd := fun W h => badC A c l W (by omega) h
  rw [hc] at hbd
  have hs : ∀ W, Calls Tryd.prog 13 #[.slice none 0 0, .slice none 0 0] W fun r w' => r = .returned (.bool true) ∧ Below W.heap.size W w' := fun W => sameC none none 0 0 [] W (by simp) (.inl rfl) (.inl rfl)
  have dz : (augErr num den l != 0) = true := by simpa using hz
  clear hc hn hz
  generalize augErr num den l = ae at *
  generalize l.length = m at *
  go_enter Tryd.func5, Tryd.ntmps5
  go_upto_region 1 with (fail)
  generalize ((w.alloc (.cells #[.int .i64 num] 3)).alloc (.cells #[.int .i64 den] 3)) = v at *
  go_wp2_with fail
  refine (hcut v).mono ?_
  rintro e w0 ⟨rfl, rfl⟩
  go_wp2_with fail
  refine (ha _ h).mono ?_
  rintro e w1 ⟨rfl, hb1⟩
  have h := h.below hb1
  have he1 := he.below hb1
  have B1 := hB.trans (hb1.mono hB.size)
  go_wp2_with fail
  refine (hk w1 he1).mono ?_
  rintro e w2 ⟨rfl, hb2⟩
  have h := h.below hb2
  have B2 := B1.trans (hb2.mono B1.size)
  have V2 := hb1.trans (hb2.mono hb1.size)
  go_wp2_with fail
  refine (hbd w2 h).mono ?_
  rintro e w3 ⟨rfl, hb3⟩
  have B3 := B2.trans (hb3.mono B2.size)
  have V3 := V2.trans (hb3.mono V2.size)
  have cn3 := (V3.cell (p := ⟨w.heap.size, 0, none⟩) (by show w.heap.size < _; omega)).trans cn
  have cd3 := (V3.cell (p := ⟨w.heap.size + 1, 0, none⟩) (by show w.heap.size + 1 < _; omega)).trans cd
  have h3' := h.below hb3
  go_wp2_with fail
  refine (hch w3 h3' cn3 cd3 (by have := V3.size; omega)).mono ?_
  rintro e w4 ⟨rfl, hb4⟩
  have B4 := B3.trans (hb4.mono B3.size)
  go_wp2_with fail
  refine (hs w4).mono ?_
  rintro e w5 ⟨rfl, hb5⟩
  go_wp2_with fail
  go_ret
  exact ⟨rfl, B4.trans (hb5.mono B4.size)⟩

set_option maxHeartbeats 8000000 in
theorem augmentsGood (A : Option Addr) (n c : Nat) (l : List Tone) (num den : Int) (w : World) (he : Env w) (hn : l.length = min n 70) (hcut : ∀ w, Calls Tryd.prog 6 #[.slice A n c] w fun r w' => r = .returned (.slice A l.length c) ∧ w' = w) (hc : checkL l = 0) (h1 : 1 ≤ num) (h2 : num ≤ 64) (h3 : 1 ≤ den) (h4 : den ≤ 64) (hz : augErr num den l = 0) (h : SlT w A l) :
    Calls Tryd.prog 5 #[.slice A n c, .int .i64 num, .int .i64 den] w fun r w' => r = .returned (.bool true) ∧ Below w.heap.size w w' := by
  have hB : Below w.heap.size w ((w.alloc (.cells #[.int .i64 num] 3)).alloc (.cells #[.int .i64 den] 3)) := ((Below.refl _ w).alloc (Nat.le_refl _) _).alloc (by simp) _
  have h := h.below hB
  have he := he.below hB
  have hk := known
  have cn : ((w.alloc (.cells #[.int .i64 num] 3)).alloc (.cells #[.int .i64 den] 3)).cell? ⟨w.heap.size, 0, none⟩ = some (.int .i64 num) := by simp [go_sem]
  have cd : ((w.alloc (.cells #[.int .i64 num] 3)).alloc (.cells #[.int .i64 den] 3)).cell? ⟨w.heap.size + 1, 0, none⟩ = some (.int .i64 den) := by simp [go_sem]
  have zv : w.heap.size + 2 ≤ ((w.alloc (.cells #[.int .i64 num] 3)).alloc (.cells #[.int .i64 den] 3)).heap.size := by simp
  obtain ⟨k1, k2, k3⟩ := aug_back h1 h3 hc hz
  obtain ⟨l1, l2, _⟩ := checkL_zero hc
  have hlen := augL_len num den l
  have ha : ∀ W, SlT W A l → Calls Tryd.prog 14 #[.slice A l.length c, .int .i64 num, .int .i64 den] W fun r w' => (∃ A' c', r = .returned (.tuple #[.slice A' l.length c', .int .i64 0]) ∧ SlT w' A' (augL num den l)) ∧ Below W.heap.size W w' := fun W h => (augC A c l num den W hc h1 h2 h3 h4 h).mono fun _ _ ⟨e, hb⟩ => ⟨e.1 hz, hb⟩
  have hch : ∀ W, SlT W A l → W.cell? ⟨w.heap.size, 0, none⟩ = some (.int .i64 num) → W.cell? ⟨w.heap.size + 1, 0, none⟩ = some (.int .i64 den) → w.heap.size + 2 ≤ W.heap.size → Calls Tryd.prog 15 #[.slice A l.length c, .func (.func 16) #[] #[.pointer (some ⟨w.heap.size, 0, none⟩), .pointer (some ⟨w.heap.size + 1, 0, none⟩)]] W fun r w' => (∃ A' c', r = .returned (.tuple #[.slice A' l.length c', .int .i64 0]) ∧ SlT w' A' (augL num den l)) ∧ Below W.heap.size W w' := fun W h a b z => (changeC A c l _ _ num den W hc h1 h2 h3 h4 h a b (by omega) (by omega)).mono fun _ _ ⟨e, hb⟩ => ⟨e.1 hz, hb⟩
  have hbk : ∀ A c W, SlT W A (augL num den l) → Calls Tryd.prog 14 #[.slice A l.length c, .int .i64 den, .int .i64 num] W fun r w' => (∃ A' c', r = .returned (.tuple #[.slice A' l.length c', .int .i64 0]) ∧ SlT w' A' l) ∧ Below W.heap.size W w' := fun A c W h => by
    have := augC A c (augL num den l) den num W k1 h3 h4 h1 h2 h
    rw [hlen] at this
    exact this.mono fun _ _ ⟨e, hb⟩ => ⟨by have := e.1 k2; rw [hlen, k3] at this; exact this, hb⟩
  have hbd := fun W h => badC A c l W (by omega) h
  rw [hc] at hbd
  have hs1 : ∀ A B c d W, SlT W A (augL num den l) → SlT W B (augL num den l) → Calls Tryd.prog 13 #[.slice A l.length c, .slice B l.length d] W fun r w' => r = .returned (.bool true) ∧ Below W.heap.size W w' := fun A B c d W x y => by
    have := sameC A B c d (augL num den l) W (by omega) x y
    rw [hlen] at this
    exact this
  have hs2 := fun A B c d W x y => sameC A B c d l W (by omega) x y
  clear hc hn hz k1 k2 k3 hlen l1 l2
  generalize augL num den l = L at *
  generalize l.length = m at *
  go_enter Tryd.func5, Tryd.ntmps5
  go_upto_region 1 with (fail)
  generalize ((w.alloc (.cells #[.int .i64 num] 3)).alloc (.cells #[.int .i64 den] 3)) = v at *
  go_wp2_with fail
  refine (hcut v).mono ?_
  rintro e w0 ⟨rfl, rfl⟩
  go_wp2_with fail
  refine (ha _ h).mono ?_
  rintro e w1 ⟨⟨A1, c1, rfl, s1⟩, hb1⟩
  have h := h.below hb1
  have he1 := he.below hb1
  have B1 := hB.trans (hb1.mono hB.size)
  go_wp2_with fail
  refine (hk w1 he1).mono ?_
  rintro e w2 ⟨rfl, hb2⟩
  have h := h.below hb2
  have B2 := B1.trans (hb2.mono B1.size)
  have s1 := s1.below hb2
  have V2 := hb1.trans (hb2.mono hb1.size)
  go_wp2_with fail
  refine (hbd w2 h).mono ?_
  rintro e w3 ⟨rfl, hb3⟩
  have B3 := B2.trans (hb3.mono B2.size)
  have s1 := s1.below hb3
  have V3 := V2.trans (hb3.mono V2.size)
  have cn3 := (V3.cell (p := ⟨w.heap.size, 0, none⟩) (by show w.heap.size < _; omega)).trans cn
  have cd3 := (V3.cell (p := ⟨w.heap.size + 1, 0, none⟩) (by show w.heap.size + 1 < _; omega)).trans cd
  have h3' := h.below hb3
  go_wp2_with fail
  refine (hch w3 h3' cn3 cd3 (by have := V3.size; omega)).mono ?_
  rintro e w4 ⟨⟨A4, c4, rfl, s4⟩, hb4⟩
  have h4' := h3'.below hb4
  have s1 := s1.below hb4
  have B4 := B3.trans (hb4.mono B3.size)
  have V4 := V3.trans (hb4.mono V3.size)
  go_wp2_with fail
  refine (hs1 A1 A4 c1 c4 w4 s1 s4).mono ?_
  rintro e w5 ⟨rfl, hb5⟩
  have h5' := h4'.below hb5
  have s1 := s1.below hb5
  have B5 := B4.trans (hb5.mono B4.size)
  have V5 := V4.trans (hb5.mono V4.size)
  have cn5 := (V5.cell (p := ⟨w.heap.size, 0, none⟩) (by show w.heap.size < _; omega)).trans cn
  have cd5 := (V5.cell (p := ⟨w.heap.size + 1, 0, none⟩) (by show w.heap.size + 1 < _; omega)).trans cd
  go_wp2_with fail
  refine (hbk A1 c1 w5 s1).mono ?_
  rintro e w6 ⟨⟨A6, c6, rfl, s6⟩, hb6⟩
  have h6' := h5'.below hb6
  have B6 := B5.trans (hb6.mono B5.size)
  go_wp2_with fail
  refine (hs2 A6 A c6 c w6 s6 h6').mono ?_
  rintro e w7 ⟨rfl, hb7⟩
  go_wp2_with fail
  go_ret
  exact ⟨rfl, B6.trans (hb7.mono B6.size)⟩

theorem augmentsC (A : Option Addr) (c : Nat) (l : List Tone) (num den : Int) (w : World) (he : Env w) (hnc : l.length ≤ c) (hc : c ≤ 9223372036854775807) (hA : A = none → c = 0) (h : SlT w A l) :
    Calls Tryd.prog 5 #[.slice A l.length c, .int .i64 num, .int .i64 den] w fun r w' => r = .returned (.bool true) ∧ Below w.heap.size w w' := by
  have e : (l.take 70).length = min l.length 70 := by rw [List.length_take]; omega
  have hcut := fun w => cutC A l.length c w hnc hc hA
  rw [← e] at hcut
  by_cases h0 : checkL (l.take 70) = 0
  · by_cases hr : num < 1 ∨ 64 < num ∨ den < 1 ∨ 64 < den
    · exact augmentsRange A l.length c (l.take 70) num den w he e hcut h0 hr (h.take 70)
    · by_cases hz : augErr num den (l.take 70) = 0
      · exact augmentsGood A l.length c (l.take 70) num den w he e hcut h0 (by omega) (by omega) (by omega) (by omega) hz (h.take 70)
      · exact augmentsErr A l.length c (l.take 70) num den w he e hcut h0 (by omega) (by omega) (by omega) (by omega) hz (h.take 70)
  · exact augmentsBad A l.length c (l.take 70) num den w he e hcut h0 (h.take 70)
end Go.Proofs.YtbmnkeihmmcciaaDoor
