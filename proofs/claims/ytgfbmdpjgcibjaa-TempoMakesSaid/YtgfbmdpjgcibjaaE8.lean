/- wrong, Make. -/
import Derived.Test.YtgfbmdpjgcibjaaE7
namespace Go.Proofs.Ytgfbmdpjgcibjaa
open Go.RowKit

def badAt (X : Nat → St) (k : Nat) : Int :=
  if (X k).b ≠ endF X k ∨ (X k).e ≤ (X k).b then 25 else if 4398046511104 < (X k).e ∨ microsF (X k).f = false ∨ microsF (X k).t = false then 2 else 0
def scanW (X : Nat → St) : Nat → Nat → Int
  | 0, _ => 0
  | r + 1, k => if badAt X k = 0 then scanW X r (k + 1) else badAt X k
def wrongF (X : Nat → St) (n : Nat) : Int := if n = 0 then 4 else scanW X n 0
theorem scanW_skip (X : Nat → St) : ∀ k i r, (∀ j, j < k → badAt X (i + j) = 0) → scanW X (k + r) i = scanW X r (i + k)
  | 0, i, r, _ => by rw [Nat.zero_add, Nat.add_zero]
  | k + 1, i, r, h => by
    have h0 : badAt X i = 0 := h 0 (by omega)
    rw [show k + 1 + r = k + r + 1 by omega]
    simp only [scanW, h0, if_true]
    rw [scanW_skip X k (i + 1) r (fun j hj => by have := h (j + 1) (by omega); rwa [show i + (j + 1) = i + 1 + j by omega] at this)]
    rw [show i + 1 + k = i + (k + 1) by omega]
theorem wrongF_good {X : Nat → St} {n : Nat} (hn : 0 < n) (h : ∀ j, j < n → badAt X j = 0) : wrongF X n = 0 := by
  unfold wrongF
  rw [if_neg (by omega)]
  have := scanW_skip X n 0 0 (fun j hj => by rw [Nat.zero_add]; exact h j hj)
  rw [Nat.add_zero] at this
  rw [this]; rfl
theorem wrongF_bad {X : Nat → St} {n k : Nat} (hk : k < n) (h : ∀ j, j < k → badAt X j = 0) (hb : badAt X k ≠ 0) : wrongF X n = badAt X k := by
  unfold wrongF
  rw [if_neg (by omega)]
  have := scanW_skip X k 0 (n - k) (fun j hj => by rw [Nat.zero_add]; exact h j hj)
  rw [show k + (n - k) = n by omega, Nat.zero_add] at this
  rw [this, show n - k = (n - k - 1) + 1 by omega]
  simp only [scanW, if_neg hb]
theorem badAt_zero {X : Nat → St} {k : Nat} (h : badAt X k = 0) : (X k).b = endF X k ∧ (X k).b < (X k).e ∧ (X k).e ≤ 4398046511104 ∧ (1 ≤ (X k).f ∧ (X k).f ≤ 60000000) ∧ 1 ≤ (X k).t ∧ (X k).t ≤ 60000000 := by
  unfold badAt at h
  by_cases c1 : (X k).b ≠ endF X k ∨ (X k).e ≤ (X k).b
  · rw [if_pos c1] at h; omega
  · rw [if_neg c1] at h
    by_cases c2 : 4398046511104 < (X k).e ∨ microsF (X k).f = false ∨ microsF (X k).t = false
    · rw [if_pos c2] at h; omega
    · simp only [microsF, decide_eq_false_iff_not] at c2
      omega
theorem okay_of {X : Nat → St} {n : Nat} (hn : 0 < n) (h : ∀ j, j < n → badAt X j = 0) : Okay X n :=
  ⟨hn, (badAt_zero (h 0 hn)).1, fun k hk => (badAt_zero (h (k + 1) hk)).1, fun k hk => (badAt_zero (h k hk)).2.1, fun k hk => (badAt_zero (h k hk)).2.2.1, fun k hk => (badAt_zero (h k hk)).2.2.2.1.1, fun k hk => (badAt_zero (h k hk)).2.2.2.1.2,
    fun k hk => (badAt_zero (h k hk)).2.2.2.2.1, fun k hk => (badAt_zero (h k hk)).2.2.2.2.2⟩
theorem scanW_all {X : Nat → St} : ∀ r i, scanW X r i = 0 → ∀ j, j < r → badAt X (i + j) = 0
  | r + 1, i, h, j, hj => by
    simp only [scanW] at h
    by_cases c : badAt X i = 0
    · rw [if_pos c] at h
      cases j with
      | zero => exact c
      | succ j => have := scanW_all r (i + 1) h j (by omega); rwa [show i + 1 + j = i + (j + 1) by omega] at this
    · rw [if_neg c] at h; exact absurd h c
theorem wrongF_okay {X : Nat → St} {n : Nat} (h : wrongF X n = 0) : Okay X n := by
  unfold wrongF at h
  by_cases hn : n = 0
  · rw [if_pos hn] at h; omega
  · rw [if_neg hn] at h
    exact okay_of (by omega) fun j hj => by have := scanW_all n 0 h j hj; rwa [Nat.zero_add] at this
theorem okay_wrongF {X : Nat → St} {n : Nat} (h : Okay X n) : wrongF X n = 0 := by
  refine wrongF_good h.n0 fun j hj => ?_
  unfold badAt microsF
  have h1 := h.begin j hj
  have h2 := h.be j hj
  have h3 := h.e1 j hj
  have h4 := h.f0 j hj
  have h5 := h.f1 j hj
  have h6 := h.t0 j hj
  have h7 := h.t1 j hj
  rw [if_neg (by omega), if_neg (by simp only [decide_eq_false_iff_not]; omega)]

/-- The five ways in which a stretch is wrong, and that in which it is right. -/
theorem bad_cases (X : Nat → St) (k : Nat) : ((X k).b ≠ endF X k ∧ badAt X k = 25) ∨ ((X k).b = endF X k ∧ (X k).e ≤ (X k).b ∧ badAt X k = 25) ∨ ((X k).b = endF X k ∧ (X k).b < (X k).e ∧ 4398046511104 < (X k).e ∧ badAt X k = 2) ∨
    ((X k).b = endF X k ∧ (X k).b < (X k).e ∧ (X k).e ≤ 4398046511104 ∧ microsF (X k).f = false ∧ badAt X k = 2) ∨ ((X k).b = endF X k ∧ (X k).b < (X k).e ∧ (X k).e ≤ 4398046511104 ∧ microsF (X k).f = true ∧ microsF (X k).t = false ∧ badAt X k = 2) ∨
    ((X k).b = endF X k ∧ (X k).b < (X k).e ∧ (X k).e ≤ 4398046511104 ∧ microsF (X k).f = true ∧ microsF (X k).t = true ∧ badAt X k = 0) := by
  unfold badAt
  by_cases c1 : (X k).b = endF X k
  · by_cases c2 : (X k).e ≤ (X k).b
    · right; left; exact ⟨c1, c2, if_pos (.inr c2)⟩
    · rw [if_neg (by omega)]
      by_cases c3 : 4398046511104 < (X k).e
      · right; right; left; exact ⟨c1, by omega, c3, if_pos (.inl c3)⟩
      · cases c4 : microsF (X k).f
        · right; right; right; left; exact ⟨c1, by omega, by omega, rfl, if_pos (.inr (.inl rfl))⟩
        · cases c5 : microsF (X k).t
          · right; right; right; right; left; exact ⟨c1, by omega, by omega, rfl, rfl, if_pos (.inr (.inr rfl))⟩
          · right; right; right; right; right; exact ⟨c1, by omega, by omega, rfl, rfl, if_neg (by simp; omega)⟩
  · left; exact ⟨c1, if_pos (.inl c1)⟩

theorem make0 (A : Option Addr) (c : Nat) (w : World) : Calls Try.prog 14 #[.slice A 0 c] w fun r w' => r = .returned (.tuple #[.pointer none, .int .i64 4]) ∧ w = w' := by
  go_enter Try.func14, Try.ntmps14
  go_wp2
  go_ret2
  exact ⟨rfl, rfl⟩
theorem wrong0 (A : Option Addr) (c : Nat) (w : World) : Calls Try.prog 13 #[.slice A 0 c] w fun r w' => r = .returned (.int .i64 4) ∧ w = w' := by
  go_enter Try.func13, Try.ntmps13
  go_wp2
  go_ret
  exact ⟨rfl, rfl⟩

theorem inM (n : Int) (w : World) : Calls Try.prog 18 #[.int .i64 n, .int .i64 1, .int .i64 60000000] w fun e w' => e = .returned (.bool (microsF n)) ∧ w = w' := inF n 1 60000000 w

set_option maxHeartbeats 4000000 in
theorem wrongC (b off n c : Nat) (X : Nat → St) (w : World) (hn0 : 0 < n) (hn : n ≤ 1000) (hb : b < w.heap.size) (h : RdS w b off n X) :
    Calls Try.prog 13 #[.slice (some ⟨b, off, none⟩) n c] w fun r w' => r = .returned (.int .i64 (wrongF X n)) ∧ Below w.heap.size w w' := by
  have e9 : ((n : Int) == 0) = false := by simp; omega
  go_enter Try.func13, Try.ntmps13
  go_wp2_with fail
  go_loopw [3, 4] (fun at_ i wr => ∃ k : Nat, k ≤ n ∧ i = .int .i64 k ∧ at_ = .int .i64 (endF X k) ∧ (∀ j, j < k → badAt X j = 0) ∧ Below w.heap.size w wr) (fun _ i _ => n - (intOf i).toNat)
  case atStart => exact ⟨0, by omega, rfl, rfl, fun j hj => by omega, Below.refl _ _⟩
  case round =>
    obtain ⟨k, hk, rfl, rfl, hall, hbw⟩ := hrel
    clear e9
    by_cases hlt : k < n
    · have hr := h.below hbw hb
      have hzw := hbw.size
      obtain ⟨r0, r1, r2, r3, r4⟩ := hr k hlt
      rcases bad_cases X k with ⟨c1, hbad⟩ | ⟨c1, c2, hbad⟩ | ⟨c1, c2, c3, hbad⟩ | ⟨c1, c2, c3, c4, hbad⟩ | ⟨c1, c2, c3, c4, c5, hbad⟩ | ⟨c1, c2, c3, c4, c5, hbad⟩
      all_goals go_wp2_with (go_at_call 18; refine (inM _ _).mono ?_; rintro e w' ⟨rfl, rfl⟩)
      · go_ret
        exact ⟨by rw [wrongF_bad hlt hall (by rw [hbad]; omega), hbad]; rfl, by first | exact hbw.alloc hzw _ | exact hbw⟩
      · go_ret
        exact ⟨by rw [wrongF_bad hlt hall (by rw [hbad]; omega), hbad]; rfl, by first | exact hbw.alloc hzw _ | exact hbw⟩
      · go_ret
        exact ⟨by rw [wrongF_bad hlt hall (by rw [hbad]; omega), hbad]; rfl, by first | exact hbw.alloc hzw _ | exact hbw⟩
      · go_ret
        exact ⟨by rw [wrongF_bad hlt hall (by rw [hbad]; omega), hbad]; rfl, by first | exact hbw.alloc hzw _ | exact hbw⟩
      · go_ret
        exact ⟨by rw [wrongF_bad hlt hall (by rw [hbad]; omega), hbad]; rfl, by first | exact hbw.alloc hzw _ | exact hbw⟩
      go_roundw
      case rel => exact ⟨k + 1, by omega, by go_num, rfl, fun j hj => if h : j < k then hall j h else by rwa [show j = k by omega], hbw.alloc hzw _⟩
      case measure => simp [intOf]; omega
    · obtain rfl : k = n := by omega
      go_wp2_with fail
      go_ret
      exact ⟨by rw [wrongF_good hn0 hall]; rfl, hbw⟩

set_option maxHeartbeats 4000000 in
theorem makeC (b off n c : Nat) (X : Nat → St) (w : World) (hn0 : 0 < n) (hn : n ≤ 1000) (hb : b < w.heap.size) (h : RdS w b off n X) :
    Calls Try.prog 14 #[.slice (some ⟨b, off, none⟩) n c] w fun r w' =>
      ((wrongF X n ≠ 0 ∧ r = .returned (.tuple #[.pointer none, .int .i64 (wrongF X n)])) ∨ (wrongF X n = 0 ∧ ∃ p, r = .returned (.tuple #[.pointer (some ⟨p, 0, none⟩), .int .i64 0]) ∧ MapAt w' w.heap.size p n (timedAt X))) ∧ Below w.heap.size w w' := by
  have e9 : ((n : Int) == 0) = false := by simp; omega
  go_enter Try.func14, Try.ntmps14
  go_wp2_with fail
  go_loopw [4, 12] (fun at_ i wr => ∃ k : Nat, k ≤ n ∧ i = .int .i64 k ∧ at_ = .int .i64 (endF X k) ∧ (∀ j, j < k → badAt X j = 0) ∧ Below w.heap.size w wr) (fun _ i _ => n - (intOf i).toNat)
  case atStart => exact ⟨0, by omega, rfl, rfl, fun j hj => by omega, Below.refl _ _⟩
  case round =>
    obtain ⟨k, hk, rfl, rfl, hall, hbw⟩ := hrel
    clear e9
    by_cases hlt : k < n
    · have hr := h.below hbw hb
      have hzw := hbw.size
      obtain ⟨r0, r1, r2, r3, r4⟩ := hr k hlt
      rcases bad_cases X k with ⟨c1, hbad⟩ | ⟨c1, c2, hbad⟩ | ⟨c1, c2, c3, hbad⟩ | ⟨c1, c2, c3, c4, hbad⟩ | ⟨c1, c2, c3, c4, c5, hbad⟩ | ⟨c1, c2, c3, c4, c5, hbad⟩
      all_goals go_wp2_with (go_at_call 29; refine (micros _ _).mono ?_; rintro e w' ⟨rfl, rfl⟩)
      · go_ret2
        have hw : wrongF X n = badAt X k := wrongF_bad hlt hall (by rw [hbad]; omega)
        rw [hbad] at hw
        exact ⟨.inl ⟨by rw [hw]; omega, by rw [hw]; rfl⟩, by first | exact hbw.alloc hzw _ | exact hbw⟩
      · go_ret2
        have hw : wrongF X n = badAt X k := wrongF_bad hlt hall (by rw [hbad]; omega)
        rw [hbad] at hw
        exact ⟨.inl ⟨by rw [hw]; omega, by rw [hw]; rfl⟩, by first | exact hbw.alloc hzw _ | exact hbw⟩
      · go_ret2
        have hw : wrongF X n = badAt X k := wrongF_bad hlt hall (by rw [hbad]; omega)
        rw [hbad] at hw
        exact ⟨.inl ⟨by rw [hw]; omega, by rw [hw]; rfl⟩, by first | exact hbw.alloc hzw _ | exact hbw⟩
      · go_ret2
        have hw : wrongF X n = badAt X k := wrongF_bad hlt hall (by rw [hbad]; omega)
        rw [hbad] at hw
        exact ⟨.inl ⟨by rw [hw]; omega, by rw [hw]; rfl⟩, by first | exact hbw.alloc hzw _ | exact hbw⟩
      · go_ret2
        have hw : wrongF X n = badAt X k := wrongF_bad hlt hall (by rw [hbad]; omega)
        rw [hbad] at hw
        exact ⟨.inl ⟨by rw [hw]; omega, by rw [hw]; rfl⟩, by first | exact hbw.alloc hzw _ | exact hbw⟩
      go_roundw
      case rel => exact ⟨k + 1, by omega, by go_num, rfl, fun j hj => if h : j < k then hall j h else by rwa [show j = k by omega], hbw.alloc hzw _⟩
      case measure => simp [intOf]; omega
    · obtain rfl : k = n := by omega
      have hzw := hbw.size
      go_wp2_with fail
      refine (timedC b off k c X _ (okay_of hn0 hall) hn (h.below hbw hb)).mono ?_
      rintro e w2 ⟨⟨p, rfl, hm⟩, hb2⟩
      go_wp2_with fail
      go_ret2
      exact ⟨.inr ⟨wrongF_good hn0 hall, p, rfl, hm.lp, by have := hm.bp; omega, by obtain ⟨g, cap, h1, h2, h3, h4⟩ := hm.ex; exact ⟨g, cap, h1, h2, by omega, h4⟩⟩, hbw.trans (hb2.mono hzw)⟩
end Go.Proofs.Ytgfbmdpjgcibjaa
