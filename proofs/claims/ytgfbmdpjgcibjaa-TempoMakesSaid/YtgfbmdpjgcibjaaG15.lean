/- TempoTimes: walk. -/
import Derived.Test.YtgfbmdpjgcibjaaG14
namespace Go.Proofs.Ytgfbmdpjgcibjaa
open Go.RowKit

theorem inBB (n a b : Int) (v : Bool) (h : decide (a ≤ n ∧ n ≤ b) = v) (w : World) : Calls Try.prog 18 #[.int .i64 n, .int .i64 a, .int .i64 b] w fun e w' => e = .returned (.bool v) ∧ w = w' := h ▸ inF n a b w

theorem times0 (A : Option Addr) (c : Nat) (x : Int) (w : World) :
    Calls Try.prog 8 #[.slice A 0 c, .int .i64 x] w fun r w' => r = .returned (.bool true) ∧ Below w.heap.size w w' := by
  go_enter Try.func8, Try.ntmps8
  go_wp2_with fail
  refine (known _).mono ?_
  rintro e w1 ⟨rfl, hb1⟩
  go_wp2_with fail
  refine (wrong0 _ _ _).mono ?_
  rintro e w2 ⟨rfl, rfl⟩
  have hz := hb1.size
  go_wp2_with fail
  refine (known _).mono ?_
  rintro e w3 ⟨rfl, hb3⟩
  go_wp2_with fail
  go_ret
  have hb : Below w.heap.size w w1 := hb1
  exact ⟨rfl, hb.trans (hb3.mono hb.size)⟩

set_option maxHeartbeats 2000000 in
theorem timesBad (b off n c : Nat) (X : Nat → St) (x : Int) (w : World) (hn0 : 0 < n) (hlb : b < w.heap.size) (h : RdS w b off n X) (hw : 20 < n ∨ (n ≤ 20 ∧ wrongF X n ≠ 0)) :
    Calls Try.prog 8 #[.slice (some ⟨b, off, none⟩) n c, .int .i64 x] w fun r w' => r = .returned (.bool true) ∧ Below w.heap.size w w' := by
  rcases hw with hw | ⟨hw, hw2⟩
  · clear h
    go_enter Try.func8, Try.ntmps8
    go_wp2_with fail
    refine (known _).mono ?_
    rintro e w1 ⟨rfl, hb1⟩
    go_wp2_with fail
    refine (known _).mono ?_
    rintro e w3 ⟨rfl, hb3⟩
    go_wp2_with fail
    go_ret
    have hb : Below w.heap.size w w1 := hb1
    exact ⟨rfl, hb.trans (hb3.mono hb.size)⟩
  · have e1 : (wrongF X n != 0) = true := by simpa using hw2
    have e5 : decide ((20 : Int) < n) = false := decide_eq_false (by omega)
    go_enter Try.func8, Try.ntmps8
    go_wp2_with fail
    refine (known _).mono ?_
    rintro e w1 ⟨rfl, hb1⟩
    have hb : Below w.heap.size w w1 := hb1
    have hz := hb.size
    have hr := h.below hb hlb
    go_wp2_with fail
    refine (wrongC b off n c X w1 hn0 (by omega) (by omega) hr).mono ?_
    rintro e w2 ⟨rfl, hb2⟩
    go_wp2_with fail
    refine (known _).mono ?_
    rintro e w3 ⟨rfl, hb3⟩
    go_wp2_with fail
    go_ret
    have hb' := hb.trans (hb2.mono hz)
    exact ⟨rfl, hb'.trans (hb3.mono hb'.size)⟩

set_option maxHeartbeats 4000000 in
theorem timesGood (b off n c : Nat) (X : Nat → St) (x : Int) (w : World) (hX : Okay X n) (hn : n ≤ 20) (hlb : b < w.heap.size) (h : RdS w b off n X) :
    Calls Try.prog 8 #[.slice (some ⟨b, off, none⟩) n c, .int .i64 x] w fun r w' => r = .returned (.bool true) ∧ Below w.heap.size w w' := by
  have n0 := hX.n0
  have hw0 := okay_wrongF hX
  have e5 : decide ((20 : Int) < n) = false := decide_eq_false (by omega)
  go_enter Try.func8, Try.ntmps8
  go_wp2_with fail
  refine (known _).mono ?_
  rintro e w1 ⟨rfl, hb⟩
  have hz := hb.size
  have hr1 := h.below hb hlb
  go_wp2_with fail
  refine (wrongC b off n c X w1 n0 (by omega) (by omega) hr1).mono ?_
  rintro e w2 ⟨rfl, hb2⟩
  have hr2 := hr1.below hb2 (by omega)
  have hz2 := hb2.size
  have B2 := hb.trans (hb2.mono hz)
  rw [hw0]
  go_wp2_with fail
  refine (makeC b off n c X w2 n0 (by omega) (by omega) hr2).mono ?_
  rintro e w3 ⟨h3, hb3⟩
  rcases h3 with ⟨h3, _⟩ | ⟨_, p, rfl, hM⟩
  · exact absurd hw0 h3
  have hM := hM.rd
  have B3 := B2.trans (hb3.mono B2.size)
  have hr3 := hr2.below hb3 (by omega)
  have hz3 := B3.size
  go_wp2_with fail
  refine (timedM b off n c X w3 hX (by omega) (by omega) hr3).mono ?_
  rintro e w4 ⟨⟨g, cap, rfl, hg0, hg1, hrd⟩, hb4⟩
  have hM4 := hM.below hb4
  have B4 := B3.trans (hb4.mono hz3)
  have fin : ∀ w', Up w4 w' → Below w.heap.size w w' := fun w' hu => B4.trans (hu.1.mono B4.size)
  clear hr1 hr2 hr3 h hb2 hb3 hw0
  have e1 : IntKind.i64.wrap ((n : Int) - 1) = ((n - 1 : Nat) : Int) := by rw [IntWalk.i64_in _ (by omega)]; omega
  have ee : (timedAt X (n - 1)).e = (X (n - 1)).e := rfl
  by_cases hx : 0 ≤ x ∧ x ≤ (X (n - 1)).e
  · have hi := fun w => inBB x 0 (X (n - 1)).e true (decide_eq_true hx) w
    have hm := microsGood p n X x w4 hX (by omega) hM4 hx.1 hx.2
    have ha := fun w5 h => atGood p n X x w5 hX (by omega) h hx.1 hx.2
    have hm2 := fun w5 h => microsM g 0 n cap X x w5 hX (by omega) h hx.1 hx.2
    have ha2 := fun w5 h => speedM g 0 n cap X x w5 hX (by omega) h hx.1 hx.2
    generalize microsAt X n x = V at *
    generalize speedAt X n x = S at *
    go_wp2_with fail
    refine hm.mono ?_
    rintro e w5 ⟨rfl, hu5⟩
    have hM5 := hM4.below hu5.1
    have hr5 := hrd.below hu5.1 hg1
    go_wp2_with fail
    refine (ha _ hM5).mono ?_
    rintro e w6 ⟨rfl, hu6⟩
    have U6 := hu5.trans hu6
    have hr6 := hrd.below U6.1 hg1
    have hz6 := U6.1.size
    obtain ⟨r0, r1, r2, r3, r4⟩ := hr6 (n - 1) (by omega)
    rw [ee] at r1
    simp only [Nat.zero_add] at r0 r1 r2 r3 r4
    generalize hmm : n - 1 = m at *
    have hmn : m < n := by omega
    go_wp2_with fail
    refine (hi _).mono ?_
    rintro e w7 ⟨rfl, rfl⟩
    go_wp2_with fail
    refine (hm2 _ hr6).mono ?_
    rintro e w7 ⟨rfl, hu7⟩
    have hr7 := hr6.below hu7.1 (by omega)
    go_wp2_with fail
    refine (ha2 _ hr7).mono ?_
    rintro e w8 ⟨rfl, hu8⟩
    go_wp2_with fail
    go_ret
    exact ⟨rfl, fin _ ((U6.trans hu7).trans hu8)⟩
  · have hi := fun w => inBB x 0 (X (n - 1)).e false (decide_eq_false hx) w
    have hx' : x < 0 ∨ (X (n - 1)).e < x := by omega
    have hm := microsBad p n X x w4 hX (by omega) hM4 hx'
    have ha := fun w5 h => atBad p n X x w5 hX (by omega) h hx'
    go_wp2_with fail
    refine hm.mono ?_
    rintro e w5 ⟨rfl, hu5⟩
    have hM5 := hM4.below hu5.1
    go_wp2_with fail
    refine (ha _ hM5).mono ?_
    rintro e w6 ⟨rfl, hu6⟩
    have U6 := hu5.trans hu6
    have hr6 := hrd.below U6.1 hg1
    obtain ⟨r0, r1, r2, r3, r4⟩ := hr6 (n - 1) (by omega)
    rw [ee] at r1
    simp only [Nat.zero_add] at r0 r1 r2 r3 r4
    generalize hmm : n - 1 = m at *
    have hmn : m < n := by omega
    go_wp2_with fail
    refine (hi _).mono ?_
    rintro e w7 ⟨rfl, rfl⟩
    go_wp2_with fail
    go_ret
    exact ⟨rfl, fin _ U6⟩

theorem timesC (b off n c : Nat) (X : Nat → St) (x : Int) (w : World) (hn0 : 0 < n) (hlb : b < w.heap.size) (h : RdS w b off n X) :
    Calls Try.prog 8 #[.slice (some ⟨b, off, none⟩) n c, .int .i64 x] w fun r w' => r = .returned (.bool true) ∧ Below w.heap.size w w' := by
  by_cases h1 : n ≤ 20
  · by_cases h2 : wrongF X n = 0
    · exact timesGood b off n c X x w (wrongF_okay h2) h1 hlb h
    · exact timesBad b off n c X x w hn0 hlb h (.inr ⟨h1, h2⟩)
  · exact timesBad b off n c X x w hn0 hlb h (.inl (by omega))
end Go.Proofs.Ytgfbmdpjgcibjaa
