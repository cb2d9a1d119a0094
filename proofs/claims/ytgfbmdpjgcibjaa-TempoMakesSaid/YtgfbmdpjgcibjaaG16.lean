/- same, slices.Equal over stretches, Begin, Stretches. -/
import Derived.Test.YtgfbmdpjgcibjaaG15
namespace Go.Proofs.Ytgfbmdpjgcibjaa
open Go.RowKit

/-- A map without begins has none. -/
theorem beginBad (p n : Nat) (Y : Nat → St) (w : World) (h : MapRd w p n Y) :
    Calls Try.prog 25 #[.pointer (some ⟨p, 0, none⟩), .int .i64 0] w fun r w' => r = .returned (.tuple #[.int .i64 0, .int .i64 2]) ∧ Up w w' := by
  obtain ⟨lp, g, cap, h0, h1, lg, hr⟩ := h
  go_enter Try.func25, Try.ntmps25
  go_wp2_with fail
  go_ret2
  exact ⟨rfl, Up.refl _⟩

theorem cloneU (b off n c : Nat) (X : Nat → St) (w : World) (hn0 : 0 < n) (hn : n ≤ 1000) (h : RdS w b off n X) :
    Calls Try.prog 44 #[.slice (some ⟨b, off, none⟩) n c] w fun r w' => (∃ g cap, r = .returned (.slice (some ⟨g, 0, none⟩) n cap) ∧ w.heap.size ≤ g ∧ g < w'.heap.size ∧ RdS w' g 0 n X) ∧ Below w.heap.size w w' := by
  refine (cloneC b off n c X w hn0 hn h).mono ?_
  rintro e w' ⟨⟨g, cap, rfl, hg, ho⟩, hb⟩
  exact ⟨⟨g, cap, rfl, hg, ho.lt, ho.rd⟩, hb⟩

theorem stretchesC (p n : Nat) (Y : Nat → St) (w : World) (hn0 : 0 < n) (hn : n ≤ 1000) (h : MapRd w p n Y) :
    Calls Try.prog 27 #[.pointer (some ⟨p, 0, none⟩)] w fun r w' => (∃ g cap, r = .returned (.slice (some ⟨g, 0, none⟩) n cap) ∧ w.heap.size ≤ g ∧ g < w'.heap.size ∧ RdS w' g 0 n Y) ∧ Below w.heap.size w w' := by
  obtain ⟨lp, g, cap, h0, h1, lg, hr⟩ := h
  have hc := cloneU g 0 n cap Y w hn0 hn hr
  clear hr
  go_enter Try.func27, Try.ntmps27
  go_wp2_with fail
  refine hc.mono ?_
  rintro e w1 ⟨⟨g1, c1, rfl, hg1, hl1, hr1⟩, hb1⟩
  go_wp2_with fail
  go_ret
  exact ⟨⟨g1, c1, rfl, hg1, hl1, hr1⟩, hb1⟩

theorem sameNe (b1 o1 n c b2 o2 m d : Nat) (w : World) (hnm : n ≠ m) :
    Calls Try.prog 26 #[.slice (some ⟨b1, o1, none⟩) n c, .slice (some ⟨b2, o2, none⟩) m d] w fun r w' => r = .returned (.bool false) ∧ ∃ q, w' = w.drewN q := by
  have e1 : ((n : Int) == m) = false := by simp; omega
  go_enter Try.func26, Try.ntmps26
  go_wp2_with fail
  go_ret
  exact ⟨rfl, 0, rfl⟩

theorem stNe {x y : St} (h : x ≠ y) : x.b ≠ y.b ∨ (x.b = y.b ∧ x.e ≠ y.e) ∨ (x.b = y.b ∧ x.e = y.e ∧ x.f ≠ y.f) ∨ (x.b = y.b ∧ x.e = y.e ∧ x.f = y.f ∧ x.t ≠ y.t) ∨ (x.b = y.b ∧ x.e = y.e ∧ x.f = y.f ∧ x.t = y.t ∧ x.m ≠ y.m) := by
  obtain ⟨x0, x1, x2, x3, x4⟩ := x
  obtain ⟨y0, y1, y2, y3, y4⟩ := y
  simp only [ne_eq, St.mk.injEq] at h
  simp only
  omega

set_option maxHeartbeats 2000000 in
theorem sameEq (b1 o1 n c b2 o2 d : Nat) (X Y : Nat → St) (w : World) (hn : n ≤ 1000) (hX : RdS w b1 o1 n X) (hY : RdS w b2 o2 n Y) :
    Calls Try.prog 26 #[.slice (some ⟨b1, o1, none⟩) n c, .slice (some ⟨b2, o2, none⟩) n d] w fun r w' => ((r = .returned (.bool true) ∧ ∀ k, k < n → X k = Y k) ∨ (r = .returned (.bool false) ∧ ¬ ∀ k, k < n → X k = Y k)) ∧ ∃ q, w' = w.drewN q := by
  go_enter Try.func26, Try.ntmps26
  go_wp2_with fail
  go_loopw [5] (fun i wr => ∃ k : Nat, k ≤ n ∧ i = .int .i64 k ∧ Aside (∀ j, j < k → X j = Y j) ∧ Aside (∃ q, wr = w.drewN q)) (fun i _ => n - (intOf i).toNat)
  case atStart => exact ⟨0, by omega, rfl, (show Aside _ from fun j hj => absurd hj (Nat.not_lt_zero _)), (show Aside _ from ⟨0, rfl⟩)⟩
  case round =>
    obtain ⟨k, hk, rfl, hA, hQ⟩ := hrel
    by_cases hlt : k < n
    · have hx : RdS wr b1 o1 n X := by obtain ⟨q, rfl⟩ := hQ.out; exact hX
      have hy : RdS wr b2 o2 n Y := by obtain ⟨q, rfl⟩ := hQ.out; exact hY
      have hQ1 : ∀ q, Aside (∃ q', wr.drewN q = w.drewN q') := by
        intro q1; obtain ⟨q, rfl⟩ := hQ.out; exact (show Aside _ from ⟨q + q1, by simp [World.drewN, Nat.add_assoc]⟩)
      obtain ⟨r0, r1, r2, r3, r4⟩ := hx k hlt
      obtain ⟨s0, s1, s2, s3, s4⟩ := hy k hlt
      clear hx hy hX hY hQ
      by_cases he : X k = Y k
      · have hA2 : Aside (∀ j, j < k + 1 → X j = Y j) := (show Aside _ from fun j hj => by
          by_cases hjk : j = k
          · subst hjk; exact he
          · exact hA.out j (by omega))
        rw [← he] at s0 s1 s2 s3 s4
        clear he hA
        generalize X k = x at r0 r1 r2 r3 r4 s0 s1 s2 s3 s4
        go_wp2_with fail
        go_region
        go_wp2_with fail
        go_roundw
        case rel => exact ⟨k + 1, by omega, by go_num, hA2, hQ1 1⟩
        case measure => simp [intOf]; omega
      · have hno : Aside (¬ ∀ k, k < n → X k = Y k) := (show Aside _ from fun h => he (h k hlt))
        have d := stNe he
        clear he hA
        generalize X k = x at *
        generalize Y k = y at *
        rcases d with d1 | ⟨d1, d2⟩ | ⟨d1, d2, d3⟩ | ⟨d1, d2, d3, d4⟩ | ⟨d1, d2, d3, d4, d5⟩
        all_goals
          go_wp2_with fail
          go_region
          go_wp2_with fail
          go_ret
          exact ⟨.inr ⟨rfl, hno.out⟩, (hQ1 1).out⟩
    · obtain rfl : k = n := by omega
      go_wp2_with fail
      go_ret
      exact ⟨.inl ⟨rfl, hA.out⟩, hQ.out⟩

theorem equalNe (b1 o1 n c b2 o2 m d : Nat) (w : World) (hnm : n ≠ m) :
    Calls Try.prog 45 #[.slice (some ⟨b1, o1, none⟩) n c, .slice (some ⟨b2, o2, none⟩) m d] w fun r w' => r = .returned (.bool false) ∧ ∃ q, w' = w.drewN q := by
  have e1 : ((n : Int) == m) = false := by simp; omega
  go_enter Try.func45, Try.ntmps45
  go_wp2_with fail
  go_ret
  exact ⟨rfl, 0, rfl⟩

set_option maxHeartbeats 2000000 in
theorem equalEq (b1 o1 n c b2 o2 d : Nat) (X Y : Nat → St) (w : World) (hn : n ≤ 1000) (hX : RdS w b1 o1 n X) (hY : RdS w b2 o2 n Y) :
    Calls Try.prog 45 #[.slice (some ⟨b1, o1, none⟩) n c, .slice (some ⟨b2, o2, none⟩) n d] w fun r w' => ((r = .returned (.bool true) ∧ ∀ k, k < n → X k = Y k) ∨ (r = .returned (.bool false) ∧ ¬ ∀ k, k < n → X k = Y k)) ∧ ∃ q, w' = w.drewN q := by
  go_enter Try.func45, Try.ntmps45
  go_wp2_with fail
  go_loopw [13] (fun i wr => ∃ k : Nat, k ≤ n ∧ i = .int .i64 k ∧ Aside (∀ j, j < k → X j = Y j) ∧ Aside (∃ q, wr = w.drewN q)) (fun i _ => n - (intOf i).toNat)
  case atStart => exact ⟨0, by omega, rfl, (show Aside _ from fun j hj => absurd hj (Nat.not_lt_zero _)), (show Aside _ from ⟨0, rfl⟩)⟩
  case round =>
    obtain ⟨k, hk, rfl, hA, hQ⟩ := hrel
    by_cases hlt : k < n
    · have hx : RdS wr b1 o1 n X := by obtain ⟨q, rfl⟩ := hQ.out; exact hX
      have hy : RdS wr b2 o2 n Y := by obtain ⟨q, rfl⟩ := hQ.out; exact hY
      have hQ1 : ∀ q, Aside (∃ q', wr.drewN q = w.drewN q') := by
        intro q1; obtain ⟨q, rfl⟩ := hQ.out; exact (show Aside _ from ⟨q + q1, by simp [World.drewN, Nat.add_assoc]⟩)
      obtain ⟨r0, r1, r2, r3, r4⟩ := hx k hlt
      obtain ⟨s0, s1, s2, s3, s4⟩ := hy k hlt
      clear hx hy hX hY hQ
      by_cases he : X k = Y k
      · have hA2 : Aside (∀ j, j < k + 1 → X j = Y j) := (show Aside _ from fun j hj => by
          by_cases hjk : j = k
          · subst hjk; exact he
          · exact hA.out j (by omega))
        rw [← he] at s0 s1 s2 s3 s4
        clear he hA
        generalize X k = x at r0 r1 r2 r3 r4 s0 s1 s2 s3 s4
        go_wp2_with fail
        go_region
        go_wp2_with fail
        go_roundw
        case rel => exact ⟨k + 1, by omega, by go_num, hA2, hQ1 1⟩
        case measure => simp [intOf]; omega
      · have hno : Aside (¬ ∀ k, k < n → X k = Y k) := (show Aside _ from fun h => he (h k hlt))
        have d := stNe he
        clear he hA
        generalize X k = x at *
        generalize Y k = y at *
        rcases d with d1 | ⟨d1, d2⟩ | ⟨d1, d2, d3⟩ | ⟨d1, d2, d3, d4⟩ | ⟨d1, d2, d3, d4, d5⟩
        all_goals
          go_wp2_with fail
          go_region
          go_wp2_with fail
          go_ret
          exact ⟨.inr ⟨rfl, hno.out⟩, (hQ1 1).out⟩
    · obtain rfl : k = n := by omega
      go_wp2_with fail
      go_ret
      exact ⟨.inl ⟨rfl, hA.out⟩, hQ.out⟩
end Go.Proofs.Ytgfbmdpjgcibjaa
