/- TempoEquals: walk. -/
import Derived.Test.YtgfbmdpjgcibjaaG20
import Derived.Test.YtgfbmdpjgcibjaaG13
namespace Go.Proofs.Ytgfbmdpjgcibjaa
open Go.RowKit

/-- A slice of n stretches, maybe of none. -/
def RdA (w : World) (A : Option Addr) (n : Nat) (X : Nat → St) : Prop := n = 0 ∨ (0 < n ∧ ∃ b off, A = some ⟨b, off, none⟩ ∧ b < w.heap.size ∧ RdS w b off n X)
theorem RdA.below {w w' : World} {A : Option Addr} {n : Nat} {X : Nat → St} (h : RdA w A n X) (hb : Below w.heap.size w w') : RdA w' A n X := by
  rcases h with h | ⟨h0, b, off, rfl, hl, hr⟩
  · exact .inl h
  · exact .inr ⟨h0, b, off, rfl, Nat.lt_of_lt_of_le hl hb.size, hr.below hb hl⟩
theorem wrongA (A : Option Addr) (n c : Nat) (X : Nat → St) (w : World) (hn : n ≤ 1000) (h : RdA w A n X) :
    Calls Try.prog 13 #[.slice A n c] w fun r w' => r = .returned (.int .i64 (wrongF X n)) ∧ Below w.heap.size w w' := by
  rcases h with rfl | ⟨h0, b, off, rfl, hl, hr⟩
  · refine (wrong0 A c w).mono ?_
    rintro e w1 ⟨rfl, rfl⟩
    exact ⟨rfl, Below.refl _ _⟩
  · exact wrongC b off n c X w h0 hn hl hr

set_option maxHeartbeats 2000000 in
theorem equalsBad (A B : Option Addr) (n m c d : Nat) (X Y : Nat → St) (w : World) (hX : RdA w A n X) (hY : RdA w B m Y) (hw : 20 < n ∨ (n ≤ 20 ∧ 20 < m) ∨ (n ≤ 20 ∧ m ≤ 20 ∧ wrongF X n ≠ 0) ∨ (n ≤ 20 ∧ m ≤ 20 ∧ wrongF X n = 0 ∧ wrongF Y m ≠ 0)) :
    Calls Try.prog 10 #[.slice A n c, .slice B m d] w fun r w' => r = .returned (.bool true) ∧ Below w.heap.size w w' := by
  rcases hw with hw | ⟨hw, hw2⟩ | ⟨hw, hw2, hw3⟩ | ⟨hw, hw2, hw3, hw4⟩
  · have e5 : decide ((20 : Int) < n) = true := decide_eq_true (by omega)
    clear hX hY
    go_enter Try.func10, Try.ntmps10
    go_wp2_with fail
    refine (known _).mono ?_
    rintro e w1 ⟨rfl, hb⟩
    go_wp2_with fail
    refine (known _).mono ?_
    rintro e w3 ⟨rfl, hb3⟩
    go_wp2_with fail
    go_ret
    exact ⟨rfl, hb.trans (hb3.mono hb.size)⟩
  · have e5 : decide ((20 : Int) < n) = false := decide_eq_false (by omega)
    have e6 : decide ((20 : Int) < m) = true := decide_eq_true (by omega)
    clear hX hY
    go_enter Try.func10, Try.ntmps10
    go_wp2_with fail
    refine (known _).mono ?_
    rintro e w1 ⟨rfl, hb⟩
    go_wp2_with fail
    refine (known _).mono ?_
    rintro e w3 ⟨rfl, hb3⟩
    go_wp2_with fail
    go_ret
    exact ⟨rfl, hb.trans (hb3.mono hb.size)⟩
  · have e5 : decide ((20 : Int) < n) = false := decide_eq_false (by omega)
    have e6 : decide ((20 : Int) < m) = false := decide_eq_false (by omega)
    have hW := fun w h => wrongA A n c X w (by omega) h
    have e1 : (wrongF X n != 0) = true := by simpa using hw3
    generalize wrongF X n = E at *
    go_enter Try.func10, Try.ntmps10
    go_wp2_with fail
    refine (known _).mono ?_
    rintro e w1 ⟨rfl, hb⟩
    have hX1 := hX.below hb
    go_wp2_with fail
    refine (hW _ hX1).mono ?_
    rintro e w2 ⟨rfl, hb2⟩
    have B2 := hb.trans (hb2.mono hb.size)
    go_wp2_with fail
    refine (known _).mono ?_
    rintro e w3 ⟨rfl, hb3⟩
    go_wp2_with fail
    go_ret
    exact ⟨rfl, B2.trans (hb3.mono B2.size)⟩
  · have e5 : decide ((20 : Int) < n) = false := decide_eq_false (by omega)
    have e6 : decide ((20 : Int) < m) = false := decide_eq_false (by omega)
    have hW := fun w h => wrongA A n c X w (by omega) h
    have hV := fun w h => wrongA B m d Y w (by omega) h
    rw [hw3] at hW
    have e1 : (wrongF Y m != 0) = true := by simpa using hw4
    clear hw3
    generalize wrongF Y m = E at *
    go_enter Try.func10, Try.ntmps10
    go_wp2_with fail
    refine (known _).mono ?_
    rintro e w1 ⟨rfl, hb⟩
    have hX1 := hX.below hb
    have hY1 := hY.below hb
    go_wp2_with fail
    refine (hW _ hX1).mono ?_
    rintro e w2 ⟨rfl, hb2⟩
    have hY2 := hY1.below hb2
    have B2 := hb.trans (hb2.mono hb.size)
    go_wp2_with fail
    refine (hV _ hY2).mono ?_
    rintro e w3 ⟨rfl, hb3⟩
    have B3 := B2.trans (hb3.mono B2.size)
    go_wp2_with fail
    refine (known _).mono ?_
    rintro e w4 ⟨rfl, hb4⟩
    go_wp2_with fail
    go_ret
    exact ⟨rfl, B3.trans (hb4.mono B3.size)⟩

theorem makeG (b off n c : Nat) (X : Nat → St) (w : World) (hX : Okay X n) (hn : n ≤ 20) (hb : b < w.heap.size) (h : RdS w b off n X) :
    Calls Try.prog 14 #[.slice (some ⟨b, off, none⟩) n c] w fun r w' => (∃ p, r = .returned (.tuple #[.pointer (some ⟨p, 0, none⟩), .int .i64 0]) ∧ MapRd w' p n (timedAt X)) ∧ Below w.heap.size w w' := by
  refine (makeC b off n c X w hX.n0 (by omega) hb h).mono ?_
  rintro e w3 ⟨h3, hb3⟩
  refine ⟨?_, hb3⟩
  rcases h3 with ⟨h3, _⟩ | ⟨_, p, rfl, hM⟩
  · exact absurd (okay_wrongF hX) h3
  · exact ⟨p, rfl, hM.rd⟩

set_option maxRecDepth 100000 in
set_option maxHeartbeats 8000000 in
theorem equalsGood (b off n c b2 off2 m d : Nat) (X Y : Nat → St) (w : World) (hX : Okay X n) (hn : n ≤ 20) (hlb : b < w.heap.size) (h : RdS w b off n X) (hY : Okay Y m) (hm : m ≤ 20) (hlb2 : b2 < w.heap.size) (k : RdS w b2 off2 m Y) :
    Calls Try.prog 10 #[.slice (some ⟨b, off, none⟩) n c, .slice (some ⟨b2, off2, none⟩) m d] w fun r w' => r = .returned (.bool true) ∧ Below w.heap.size w w' := by
  have n0 := hX.n0
  have m0 := hY.n0
  have hw0 := okay_wrongF hX
  have hv0 := okay_wrongF hY
  have e5 : decide ((20 : Int) < n) = false := decide_eq_false (by omega)
  have e6 : decide ((20 : Int) < m) = false := decide_eq_false (by omega)
  have hS := fun g c g2 d w h h2 => sameC g 0 n c g2 0 m d (timedAt X) (timedAt Y) w (by omega) h h2
  have hE1 := fun p q w h h2 => equalC p q n m (timedAt X) (timedAt Y) w (by omega) h h2
  have hE2 := fun p q w h h2 => equalC p q m n (timedAt Y) (timedAt X) w (by omega) h h2
  have hE3 := fun p q w h h2 => equalC p q n n (timedAt X) (timedAt X) w (by omega) h h2
  rw [sameF_symm] at hE2
  rw [sameF_self] at hE3
  have hT1 := fun b off c w h => timedM b off n c X w hX (by omega) h
  have hT2 := fun b off c w h => timedM b off m c Y w hY (by omega) h
  have hM1 := fun b off c w h h2 => makeG b off n c X w hX hn h h2
  have hM2 := fun b off c w h h2 => makeG b off m c Y w hY hm h h2
  generalize hBB : sameF (timedAt X) (timedAt Y) n m = BB at *
  clear hBB
  go_enter Try.func10, Try.ntmps10
  go_wp2_with fail
  refine (known _).mono ?_
  rintro e w1 ⟨rfl, hb⟩
  have hz := hb.size
  have h1 := h.below hb hlb
  have k1 := k.below hb hlb2
  go_wp2_with fail
  refine (wrongC b off n c X w1 n0 (by omega) (by omega) h1).mono ?_
  rintro e w2 ⟨rfl, hb2⟩
  have h2 := h1.below hb2 (by omega)
  have k2 := k1.below hb2 (by omega)
  have B2 := hb.trans (hb2.mono hz)
  have z2 := B2.size
  rw [hw0]
  clear h k h1 k1 hb hb2
  go_wp2_with fail
  refine (wrongC b2 off2 m d Y w2 m0 (by omega) (by omega) k2).mono ?_
  rintro e w3 ⟨rfl, hb3⟩
  have h3 := h2.below hb3 (by omega)
  have k3 := k2.below hb3 (by omega)
  have B3 := B2.trans (hb3.mono z2)
  have z3 := B3.size
  rw [hv0]
  clear h2 k2 hb3 B2
  go_wp2_with fail
  refine (hM1 b off c w3 (by omega) h3).mono ?_
  rintro e w4 ⟨⟨p1, rfl, hp1⟩, hb4⟩
  have h4 := h3.below hb4 (by omega)
  have k4 := k3.below hb4 (by omega)
  have B4 := B3.trans (hb4.mono z3)
  have z4 := B4.size
  clear h3 k3 hb4 B3
  go_wp2_with fail
  refine (hM2 b2 off2 d w4 (by omega) k4).mono ?_
  rintro e w5 ⟨⟨p2, rfl, hp2⟩, hb5⟩
  have h5 := h4.below hb5 (by omega)
  have k5 := k4.below hb5 (by omega)
  have hp1 := hp1.below hb5
  have B5 := B4.trans (hb5.mono z4)
  have z5 := B5.size
  clear h4 k4 hb5 B4
  go_wp2_with fail
  refine (hM1 b off c w5 (by omega) h5).mono ?_
  rintro e w6 ⟨⟨p3, rfl, hp3⟩, hb6⟩
  have h6 := h5.below hb6 (by omega)
  have k6 := k5.below hb6 (by omega)
  have hp1 := hp1.below hb6
  have hp2 := hp2.below hb6
  have B6 := B5.trans (hb6.mono z5)
  have z6 := B6.size
  clear h5 k5 hb6 B5
  go_wp2_with fail
  refine (hT1 b off c w6 (by omega) h6).mono ?_
  rintro e w7 ⟨⟨g1, c1, rfl, hg1, hl1, hr1⟩, hb7⟩
  have k7 := k6.below hb7 (by omega)
  have hp1 := hp1.below hb7
  have hp2 := hp2.below hb7
  have hp3 := hp3.below hb7
  have B7 := B6.trans (hb7.mono z6)
  have z7 := B7.size
  clear h6 k6 hb7 B6
  go_wp2_with fail
  refine (hT2 b2 off2 d w7 (by omega) k7).mono ?_
  rintro e w8 ⟨⟨g2, c2, rfl, hg2, hl2, hr2⟩, hb8⟩
  have hr1 := hr1.below hb8 hl1
  have hp1 := hp1.below hb8
  have hp2 := hp2.below hb8
  have hp3 := hp3.below hb8
  have B8 := B7.trans (hb8.mono z7)
  have z8 := B8.size
  clear k7 hb8 B7
  go_wp2_with fail
  refine (hS g1 c1 g2 c2 w8 hr1 hr2).mono ?_
  rintro e w9 ⟨rfl, q9, rfl⟩
  have U9 : Up w8 (w8.drewN q9) := (Up.refl w8).drawnN q9
  have hp1 := hp1.below U9.1
  have hp2 := hp2.below U9.1
  have hp3 := hp3.below U9.1
  have fin : ∀ w', Up (w8.drewN q9) w' → Below w.heap.size w w' := fun w' hu => B8.trans ((U9.trans hu).1.mono z8)
  clear B8 hr1 hr2
  generalize w8.drewN q9 = w9 at *
  clear U9
  go_wp2_with fail
  refine (microsNil _).mono ?_
  rintro e w10 ⟨rfl, u10⟩
  go_wp2_with fail
  refine (tickNil _).mono ?_
  rintro e w11 ⟨rfl, u11⟩
  have u11 := u10.trans u11
  go_wp2_with fail
  refine (atNil _).mono ?_
  rintro e w12 ⟨rfl, u12⟩
  have u12 := u11.trans u12
  go_wp2_with fail
  refine (beginNil _).mono ?_
  rintro e w13 ⟨rfl, u13⟩
  have u13 := u12.trans u13
  have hp1 := hp1.below u13.1
  have hp2 := hp2.below u13.1
  have hp3 := hp3.below u13.1
  clear u10 u11 u12
  go_wp2_with fail
  refine (hE1 p1 p2 _ hp1 hp2).mono ?_
  rintro e w14 ⟨rfl, u14⟩
  have hp1 := hp1.below u14.1
  have hp2 := hp2.below u14.1
  have hp3 := hp3.below u14.1
  have u14 := u13.trans u14
  go_wp2_with fail
  refine (hE2 p2 p1 _ hp2 hp1).mono ?_
  rintro e w15 ⟨rfl, u15⟩
  have hp1 := hp1.below u15.1
  have hp3 := hp3.below u15.1
  have u15 := u14.trans u15
  go_wp2_with fail
  refine (hE3 p1 p3 _ hp1 hp3).mono ?_
  rintro e w16 ⟨rfl, u16⟩
  have u16 := u15.trans u16
  go_wp2_with fail
  refine (ticksNil _).mono ?_
  rintro e w17 ⟨rfl, u17⟩
  have u17 := u16.trans u17
  go_wp2_with fail
  refine (totalNil _).mono ?_
  rintro e w18 ⟨rfl, u18⟩
  have u18 := u17.trans u18
  go_wp2_with fail
  refine (stretchesNil _).mono ?_
  rintro e w19 ⟨rfl, u19⟩
  have u19 := u18.trans u19
  go_wp2_with fail
  refine (equalNil _).mono ?_
  rintro e w20 ⟨rfl, u20⟩
  have u20 := u19.trans u20
  go_wp2_with fail
  refine (equalNilL _ _).mono ?_
  rintro e w21 ⟨rfl, u21⟩
  have u21 := u20.trans u21
  go_wp2_with fail
  refine (equalNilR _ _).mono ?_
  rintro e w22 ⟨rfl, u22⟩
  have u22 := u21.trans u22
  go_wp2_with fail
  go_ret
  exact ⟨rfl, fin _ u22⟩

theorem equalsC (A B : Option Addr) (n m c d : Nat) (X Y : Nat → St) (w : World) (hX : RdA w A n X) (hY : RdA w B m Y) :
    Calls Try.prog 10 #[.slice A n c, .slice B m d] w fun r w' => r = .returned (.bool true) ∧ Below w.heap.size w w' := by
  by_cases h1 : n ≤ 20
  · by_cases h2 : m ≤ 20
    · by_cases h3 : wrongF X n = 0
      · by_cases h4 : wrongF Y m = 0
        · have oX := wrongF_okay h3
          have oY := wrongF_okay h4
          have := oX.n0
          have := oY.n0
          rcases hX with hX | ⟨_, b, off, rfl, hl, hr⟩
          · omega
          rcases hY with hY | ⟨_, b2, off2, rfl, hl2, hr2⟩
          · omega
          exact equalsGood b off n c b2 off2 m d X Y w oX h1 hl hr oY h2 hl2 hr2
        · exact equalsBad A B n m c d X Y w hX hY (.inr (.inr (.inr ⟨h1, h2, h3, h4⟩)))
      · exact equalsBad A B n m c d X Y w hX hY (.inr (.inr (.inl ⟨h1, h2, h3⟩)))
    · exact equalsBad A B n m c d X Y w hX hY (.inr (.inl ⟨h1, by omega⟩))
  · exact equalsBad A B n m c d X Y w hX hY (.inl (by omega))
end Go.Proofs.Ytgfbmdpjgcibjaa
