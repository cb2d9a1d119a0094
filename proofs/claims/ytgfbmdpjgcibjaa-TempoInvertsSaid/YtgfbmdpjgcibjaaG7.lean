/- TempoInverts: walk. -/
import Derived.Test.YtgfbmdpjgcibjaaG6
namespace Go.Proofs.Ytgfbmdpjgcibjaa
open Go.RowKit

theorem inverts0 (A : Option Addr) (c : Nat) (x : Int) (w : World) :
    Calls Try.prog 7 #[.slice A 0 c, .int .i64 x] w fun r w' => r = .returned (.bool true) ∧ Below w.heap.size w w' := by
  go_enter Try.func7, Try.ntmps7
  go_wp2_with fail
  refine (known _).mono ?_
  rintro e w1 ⟨rfl, hb1⟩
  go_wp2_with fail
  refine (wrong0 _ _ _).mono ?_
  rintro e w2 ⟨rfl, rfl⟩
  have hz := hb1.size
  go_wp2_with fail
  refine (known _).mono ?_
  rintro e w3 ⟨rfl, hb3⟩
  go_wp2_with fail
  go_ret
  have hb : Below w.heap.size w w1 := hb1
  exact ⟨rfl, hb.trans (hb3.mono hb.size)⟩

set_option maxHeartbeats 2000000 in
theorem invertsBad (b off n c : Nat) (X : Nat → St) (x : Int) (w : World) (hn0 : 0 < n) (hlb : b < w.heap.size) (h : RdS w b off n X) (hw : 20 < n ∨ (n ≤ 20 ∧ wrongF X n ≠ 0)) :
    Calls Try.prog 7 #[.slice (some ⟨b, off, none⟩) n c, .int .i64 x] w fun r w' => r = .returned (.bool true) ∧ Below w.heap.size w w' := by
  rcases hw with hw | ⟨hw, hw2⟩
  · clear h
    go_enter Try.func7, Try.ntmps7
    go_wp2_with fail
    refine (known _).mono ?_
    rintro e w1 ⟨rfl, hb1⟩
    go_wp2_with fail
    refine (known _).mono ?_
    rintro e w3 ⟨rfl, hb3⟩
    go_wp2_with fail
    go_ret
    have hb : Below w.heap.size w w1 := hb1
    exact ⟨rfl, hb.trans (hb3.mono hb.size)⟩
  · have e1 : (wrongF X n != 0) = true := by simpa using hw2
    have e5 : decide ((20 : Int) < n) = false := decide_eq_false (by omega)
    go_enter Try.func7, Try.ntmps7
    go_wp2_with fail
    refine (known _).mono ?_
    rintro e w1 ⟨rfl, hb1⟩
    have hb : Below w.heap.size w w1 := hb1
    have hz := hb.size
    have hr := h.below hb hlb
    go_wp2_with fail
    refine (wrongC b off n c X w1 hn0 (by omega) (by omega) hr).mono ?_
    rintro e w2 ⟨rfl, hb2⟩
    go_wp2_with fail
    refine (known _).mono ?_
    rintro e w3 ⟨rfl, hb3⟩
    go_wp2_with fail
    go_ret
    have hb' := hb.trans (hb2.mono hz)
    exact ⟨rfl, hb'.trans (hb3.mono hb'.size)⟩

set_option maxHeartbeats 4000000 in
theorem invertsGood (b off n c : Nat) (X : Nat → St) (x : Int) (w : World) (hX : Okay X n) (hn : n ≤ 20) (hlb : b < w.heap.size) (h : RdS w b off n X) :
    Calls Try.prog 7 #[.slice (some ⟨b, off, none⟩) n c, .int .i64 x] w fun r w' => r = .returned (.bool true) ∧ Below w.heap.size w w' := by
  have n0 := hX.n0
  have hw0 := okay_wrongF hX
  have e5 : decide ((20 : Int) < n) = false := decide_eq_false (by omega)
  go_enter Try.func7, Try.ntmps7
  go_wp2_with fail
  refine (known _).mono ?_
  rintro e w1 ⟨rfl, hb⟩
  have hz := hb.size
  have hr1 := h.below hb hlb
  go_wp2_with fail
  refine (wrongC b off n c X w1 n0 (by omega) (by omega) hr1).mono ?_
  rintro e w2 ⟨rfl, hb2⟩
  have hr2 := hr1.below hb2 (by omega)
  have hz2 := hb2.size
  have B2 := hb.trans (hb2.mono hz)
  rw [hw0]
  go_wp2_with fail
  refine (makeC b off n c X w2 n0 (by omega) (by omega) hr2).mono ?_
  rintro e w3 ⟨h3, hb3⟩
  rcases h3 with ⟨h3, _⟩ | ⟨_, p, rfl, hM⟩
  · exact absurd hw0 h3
  have hM := hM.rd
  have B3 := B2.trans (hb3.mono B2.size)
  have fin : ∀ w', Up w3 w' → Below w.heap.size w w' := fun w' hu => B3.trans (hu.1.mono B3.size)
  clear hr1 hr2 h hb2 hb3 hw0
  by_cases hx : x < 0
  · have e6 : decide (x < 0) = true := decide_eq_true hx
    go_wp2_with fail
    refine (tickBad p x w3 hx).mono ?_
    rintro e w4 ⟨rfl, hu4⟩
    go_wp2_with fail
    go_ret
    exact ⟨rfl, fin _ hu4⟩
  · have e6 : decide (x < 0) = false := decide_eq_false hx
    have hT := tickGood p n X x w3 hX (by omega) hM (by omega)
    obtain ⟨t0, t1, t2, t3⟩ := tickF_spec hX (at_ := x) (by omega)
    have he1 := hX.e1 (n - 1) (by omega)
    generalize tickF X n x = T at *
    go_wp2_with fail
    refine hT.mono ?_
    rintro e w4 ⟨rfl, hu4⟩
    have hM4 := hM.below hu4.1
    have hm := microsGood p n X T w4 hX (by omega) hM4 t0 t1
    have e7 : decide (x < microsAt X n T) = false := decide_eq_false (by omega)
    generalize microsAt X n T = V at *
    go_wp2_with fail
    refine hm.mono ?_
    rintro e w5 ⟨rfl, hu5⟩
    have hM5 := hM4.below hu5.1
    have hk := ticksC p n (timedAt X) w5 n0 (by omega) hM5
    have ee : (timedAt X (n - 1)).e = (X (n - 1)).e := rfl
    rw [ee] at hk
    go_wp2_with fail
    refine hk.mono ?_
    rintro e w6 ⟨rfl, hu6⟩
    have hM6 := hM5.below hu6.1
    have U6 := (hu4.trans hu5).trans hu6
    cases e8 : (T == (X (n - 1)).e)
    · have hlt : T < (X (n - 1)).e := by
        have : T ≠ (X (n - 1)).e := by simpa using e8
        omega
      have e9 : decide (x < microsAt X n (T + 1)) = true := decide_eq_true (t3 hlt)
      have hm2 := microsGood p n X (T + 1) w6 hX (by omega) hM6 (by omega) (by omega)
      generalize microsAt X n (T + 1) = V2 at *
      go_wp2_with fail
      refine hm2.mono ?_
      rintro e w7 ⟨rfl, hu7⟩
      go_wp2_with fail
      go_ret
      exact ⟨rfl, fin _ (U6.trans hu7)⟩
    · go_wp2_with fail
      go_ret
      exact ⟨rfl, fin _ U6⟩

theorem invertsC (b off n c : Nat) (X : Nat → St) (x : Int) (w : World) (hn0 : 0 < n) (hlb : b < w.heap.size) (h : RdS w b off n X) :
    Calls Try.prog 7 #[.slice (some ⟨b, off, none⟩) n c, .int .i64 x] w fun r w' => r = .returned (.bool true) ∧ Below w.heap.size w w' := by
  by_cases h1 : n ≤ 20
  · by_cases h2 : wrongF X n = 0
    · exact invertsGood b off n c X x w (wrongF_okay h2) h1 hlb h
    · exact invertsBad b off n c X x w hn0 hlb h (.inr ⟨h1, h2⟩)
  · exact invertsBad b off n c X x w hn0 hlb h (.inl (by omega))
end Go.Proofs.Ytgfbmdpjgcibjaa
