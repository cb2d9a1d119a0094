/- TempoGrows: walk. -/
import Derived.Test.YtgfbmdpjgcibjaaG4
namespace Go.Proofs.Ytgfbmdpjgcibjaa
open Go.RowKit

/-- What Micros answers. -/
def ansV (X : Nat → St) (n : Nat) (tick : Int) : Int := if 0 ≤ tick ∧ tick ≤ (X (n - 1)).e then microsAt X n tick else 0
def ansE (X : Nat → St) (n : Nat) (tick : Int) : Int := if 0 ≤ tick ∧ tick ≤ (X (n - 1)).e then 0 else 2
theorem microsC (p n : Nat) (X : Nat → St) (tick : Int) (w : World) (hX : Okay X n) (hn : n ≤ 1000) (hM : MapRd w p n (timedAt X)) :
    Calls Try.prog 15 #[.pointer (some ⟨p, 0, none⟩), .int .i64 tick] w fun r w' => r = .returned (.tuple #[.int .i64 (ansV X n tick), .int .i64 (ansE X n tick)]) ∧ Up w w' := by
  unfold ansV ansE
  by_cases h : 0 ≤ tick ∧ tick ≤ (X (n - 1)).e
  · rw [if_pos h, if_pos h]; exact microsGood p n X tick w hX hn hM h.1 h.2
  · rw [if_neg h, if_neg h]; exact microsBad p n X tick w hX hn hM (by omega)

theorem grows0 (A : Option Addr) (c : Nat) (x y : Int) (w : World) :
    Calls Try.prog 4 #[.slice A 0 c, .agg #[.int .i64 x, .int .i64 y]] w fun r w' => r = .returned (.bool true) ∧ Below w.heap.size w w' := by
  go_enter Try.func4, Try.ntmps4
  go_wp2_with fail
  refine (known _).mono ?_
  rintro e w1 ⟨rfl, hb1⟩
  go_wp2_with fail
  refine (wrong0 _ _ _).mono ?_
  rintro e w2 ⟨rfl, rfl⟩
  have hz := hb1.size
  go_wp2_with fail
  refine (known _).mono ?_
  rintro e w3 ⟨rfl, hb3⟩
  go_wp2_with fail
  go_ret
  have hb : Below w.heap.size w w1 := ((Below.refl _ w).alloc (Nat.le_refl _) _).trans (hb1.mono (by simp))
  exact ⟨rfl, hb.trans (hb3.mono hb.size)⟩

set_option maxHeartbeats 2000000 in
theorem growsBad (b off n c : Nat) (X : Nat → St) (x y : Int) (w : World) (hn0 : 0 < n) (hlb : b < w.heap.size) (h : RdS w b off n X) (hw : 20 < n ∨ (n ≤ 20 ∧ wrongF X n ≠ 0)) :
    Calls Try.prog 4 #[.slice (some ⟨b, off, none⟩) n c, .agg #[.int .i64 x, .int .i64 y]] w fun r w' => r = .returned (.bool true) ∧ Below w.heap.size w w' := by
  rcases hw with hw | ⟨hw, hw2⟩
  · clear h
    go_enter Try.func4, Try.ntmps4
    go_wp2_with fail
    refine (known _).mono ?_
    rintro e w1 ⟨rfl, hb1⟩
    go_wp2_with fail
    refine (known _).mono ?_
    rintro e w3 ⟨rfl, hb3⟩
    go_wp2_with fail
    go_ret
    have hb : Below w.heap.size w w1 := ((Below.refl _ w).alloc (Nat.le_refl _) _).trans (hb1.mono (by simp))
    exact ⟨rfl, hb.trans (hb3.mono hb.size)⟩
  · have e1 : (wrongF X n != 0) = true := by simpa using hw2
    have e5 : decide ((20 : Int) < n) = false := decide_eq_false (by omega)
    go_enter Try.func4, Try.ntmps4
    go_wp2_with fail
    refine (known _).mono ?_
    rintro e w1 ⟨rfl, hb1⟩
    have hb : Below w.heap.size w w1 := ((Below.refl _ w).alloc (Nat.le_refl _) _).trans (hb1.mono (by simp))
    have hz := hb.size
    have hr := h.below hb hlb
    go_wp2_with fail
    refine (wrongC b off n c X w1 hn0 (by omega) (by omega) hr).mono ?_
    rintro e w2 ⟨rfl, hb2⟩
    go_wp2_with fail
    refine (known _).mono ?_
    rintro e w3 ⟨rfl, hb3⟩
    go_wp2_with fail
    go_ret
    have hb' := hb.trans (hb2.mono hz)
    exact ⟨rfl, hb'.trans (hb3.mono hb'.size)⟩

set_option maxHeartbeats 8000000 in
theorem growsGood (b off n c : Nat) (X : Nat → St) (x y : Int) (w : World) (hX : Okay X n) (hn : n ≤ 20) (hlb : b < w.heap.size) (h : RdS w b off n X) :
    Calls Try.prog 4 #[.slice (some ⟨b, off, none⟩) n c, .agg #[.int .i64 x, .int .i64 y]] w fun r w' => r = .returned (.bool true) ∧ Below w.heap.size w w' := by
  have n0 := hX.n0
  have hw0 := okay_wrongF hX
  have e5 : decide ((20 : Int) < n) = false := decide_eq_false (by omega)
  obtain ⟨lo, hlo⟩ : ∃ lo, min x y = lo := ⟨_, rfl⟩
  obtain ⟨hi, hhi⟩ : ∃ hi, max x y = hi := ⟨_, rfl⟩
  have hlh : lo ≤ hi := by omega
  have hmic := fun p tick w hM => microsC p n X tick w hX (by omega) hM
  have q0 : ansV X n 0 = 0 ∧ ansE X n 0 = 0 := by
    have := hX.end_pos
    unfold ansV ansE
    rw [if_pos (by omega), if_pos (by omega), hX.micros_zero]
    exact ⟨rfl, rfl⟩
  have qe : ansV X n (X (n - 1)).e = tmF X n ∧ ansE X n (X (n - 1)).e = 0 := by
    have := hX.end_pos
    unfold ansV ansE
    rw [if_pos (by omega), if_pos (by omega), hX.micros_end]
    exact ⟨rfl, rfl⟩
  have pA : ansE X n lo = 0 ∨ ansE X n lo = 2 := by unfold ansE; split <;> simp
  have pB : ansE X n hi = 0 ∨ ansE X n hi = 2 := by unfold ansE; split <;> simp
  have pM : ansE X n lo = 0 → ansE X n hi = 0 → decide (ansV X n hi < ansV X n lo) = false := by
    unfold ansE ansV
    intro h1 h2
    by_cases ra : 0 ≤ lo ∧ lo ≤ (X (n - 1)).e
    · by_cases rb : 0 ≤ hi ∧ hi ≤ (X (n - 1)).e
      · rw [if_pos ra, if_pos rb]
        have := hX.micros_mono ra.1 hlh rb.2
        exact decide_eq_false (by omega)
      · rw [if_neg rb] at h2; omega
    · rw [if_neg ra] at h1; omega
  have pC : ((n : Int) == 1) = false ∨ (((n : Int) == 1) = true ∧ ((X 0).f == (X 0).t) = false) ∨ (((n : Int) == 1) = true ∧ ((X 0).f == (X 0).t) = true ∧
      (ansE X n lo = 2 ∨ (ansE X n lo = 0 ∧ decide (ansV X n lo < 1099511627776) = false) ∨ (ansE X n lo = 0 ∧ decide (ansV X n lo < 1099511627776) = true ∧ decide (x ≤ 1073741824) = false) ∨
        (ansE X n lo = 0 ∧ decide (ansV X n lo < 1099511627776) = true ∧ decide (x ≤ 1073741824) = true ∧ decide (y ≤ 1073741824) = false) ∨
        (ansE X n lo = 0 ∧ decide (ansV X n lo < 1099511627776) = true ∧ decide (x ≤ 1073741824) = true ∧ decide (y ≤ 1073741824) = true ∧ (ansV X n lo == lo * (X 0).f / 483840) = true ∧ 0 ≤ lo * (X 0).f ∧ lo * (X 0).f ≤ 1073741824 * 60000000))) := by
    by_cases c1 : n = 1
    · right
      have c1' : ((n : Int) == 1) = true := by simp; omega
      by_cases c2 : (X 0).f = (X 0).t
      · right
        refine ⟨c1', by simpa using c2, ?_⟩
        rcases pA with c3 | c3
        · right
          have hr : 0 ≤ lo ∧ lo ≤ (X (n - 1)).e := by
            unfold ansE at c3
            split at c3
            · assumption
            · omega
          cases c4 : decide (ansV X n lo < 1099511627776)
          · left; exact ⟨c3, rfl⟩
          · right
            cases c5 : decide (x ≤ 1073741824)
            · left; exact ⟨c3, rfl, rfl⟩
            · right
              cases c6 : decide (y ≤ 1073741824)
              · left; exact ⟨c3, rfl, rfl, rfl⟩
              · right
                have c5 := of_decide_eq_true c5
                have c6 := of_decide_eq_true c6
                have hm := mul_bd (a := lo) (b := (X 0).f) (x := 1073741824) (y := 60000000) hr.1 (by omega) (by have := hX.f0 0 n0; omega) (hX.f1 0 n0)
                refine ⟨c3, rfl, rfl, rfl, ?_, hm.1, hm.2⟩
                subst c1
                unfold ansV
                rw [if_pos hr, hX.micros_flat c2 hr.1 hr.2]
                simp
        · left; exact c3
      · left; exact ⟨c1', by simpa using c2⟩
    · left; simp; omega
  go_enter Try.func4, Try.ntmps4
  go_wp2_with fail
  refine (known _).mono ?_
  rintro e w1 ⟨rfl, hb1⟩
  have hb : Below w.heap.size w w1 := ((Below.refl _ w).alloc (Nat.le_refl _) _).trans (hb1.mono (by simp))
  have hz := hb.size
  have s0 : w1.cell? ⟨w.heap.size, 0, none⟩ = some (.int .i64 x) := (hb1.cell (p := ⟨_, _, none⟩) (by simp)).trans (by simp [go_sem])
  have s1 : w1.cell? ⟨w.heap.size, 1, none⟩ = some (.int .i64 y) := (hb1.cell (p := ⟨_, _, none⟩) (by simp)).trans (by simp [go_sem])
  have hz1 : w.heap.size < w1.heap.size := by have := hb1.size; simp at this; omega
  have hr1 := h.below hb hlb
  go_wp2_with fail
  refine (wrongC b off n c X w1 n0 (by omega) (by omega) hr1).mono ?_
  rintro e w2 ⟨rfl, hb2⟩
  have hr2 := hr1.below hb2 (by omega)
  have hz2 := hb2.size
  have B2 := hb.trans (hb2.mono hz)
  rw [hw0]
  go_wp2_with fail
  refine (makeC b off n c X w2 n0 (by omega) (by omega) hr2).mono ?_
  rintro e w3 ⟨h3, hb3⟩
  rcases h3 with ⟨h3, _⟩ | ⟨_, p, rfl, hM⟩
  · exact absurd hw0 h3
  have hM := hM.rd
  have hz3 := hb3.size
  have B3 := B2.trans (hb3.mono B2.size)
  have H3 : Below w1.heap.size w1 w3 := hb2.trans (hb3.mono hz2)
  have s3 : w3.cell? ⟨w.heap.size, 0, none⟩ = some (.int .i64 x) := (H3.cell (p := ⟨_, _, none⟩) hz1).trans s0
  have s4 : w3.cell? ⟨w.heap.size, 1, none⟩ = some (.int .i64 y) := (H3.cell (p := ⟨_, _, none⟩) hz1).trans s1
  go_wp2_with fail
  refine (hmic p lo w3 hM).mono ?_
  rintro e w4 ⟨rfl, hu4⟩
  have hM4 := hM.below hu4.1
  have s3 := (hu4.1.cell (p := ⟨w.heap.size, 0, none⟩) (by show w.heap.size < _; omega)).trans s3
  have s4 := (hu4.1.cell (p := ⟨w.heap.size, 1, none⟩) (by show w.heap.size < _; omega)).trans s4
  have hz4 := hu4.1.size
  go_wp2_with fail
  refine (hmic p hi w4 hM4).mono ?_
  rintro e w5 ⟨rfl, hu5⟩
  have hM5 := hM4.below hu5.1
  have s3 := (hu5.1.cell (p := ⟨w.heap.size, 0, none⟩) (by show w.heap.size < _; omega)).trans s3
  have s4 := (hu5.1.cell (p := ⟨w.heap.size, 1, none⟩) (by show w.heap.size < _; omega)).trans s4
  have hz5 := hu5.1.size
  go_wp2_with fail
  refine (hmic p 0 w5 hM5).mono ?_
  rw [q0.1, q0.2]
  rintro e w6 ⟨rfl, hu6⟩
  have hM6 := hM5.below hu6.1
  have s3 := (hu6.1.cell (p := ⟨w.heap.size, 0, none⟩) (by show w.heap.size < _; omega)).trans s3
  have s4 := (hu6.1.cell (p := ⟨w.heap.size, 1, none⟩) (by show w.heap.size < _; omega)).trans s4
  have hz6 := hu6.1.size
  go_wp2_with fail
  refine (ticksC p n (timedAt X) w6 n0 (by omega) hM6).mono ?_
  rintro e w7 ⟨rfl, hu7⟩
  have hM7 := hM6.below hu7.1
  have s3 := (hu7.1.cell (p := ⟨w.heap.size, 0, none⟩) (by show w.heap.size < _; omega)).trans s3
  have s4 := (hu7.1.cell (p := ⟨w.heap.size, 1, none⟩) (by show w.heap.size < _; omega)).trans s4
  have hz7 := hu7.1.size
  go_wp2_with fail
  refine (hmic p (X (n - 1)).e w7 hM7).mono ?_
  rw [qe.1, qe.2]
  rintro e w8 ⟨rfl, hu8⟩
  have hM8 := hM7.below hu8.1
  have s3 := (hu8.1.cell (p := ⟨w.heap.size, 0, none⟩) (by show w.heap.size < _; omega)).trans s3
  have s4 := (hu8.1.cell (p := ⟨w.heap.size, 1, none⟩) (by show w.heap.size < _; omega)).trans s4
  have hz8 := hu8.1.size
  have hT := totalC p n X w8 hX (by omega) hM8
  have U8 : Up w3 w8 := (((hu4.trans hu5).trans hu6).trans hu7).trans hu8
  clear hu4 hu5 hu6 hu7 hu8 hM4 hM5 hM6 hM7 hM8 hM q0 qe
  generalize tmF X n = TT at hT
  have hB : Below w.heap.size w w8 := B3.trans (U8.1.mono B3.size)
  have hr8 : RdS w8 b off n X := h.below hB hlb
  obtain ⟨r0, r1, r2, r3, r4⟩ := hr8 0 n0
  simp only [Nat.zero_mul, Nat.add_zero] at r0 r1 r2 r3 r4
  have fin : ∀ w', Up w8 w' → Below w.heap.size w w' := fun w' hu => hB.trans (hu.1.mono hB.size)
  generalize ansV X n lo = A at *
  generalize ansE X n lo = EA at *
  generalize ansV X n hi = Bv at *
  generalize ansE X n hi = EB at *
  go_wp2_with fail
  refine hT.mono ?_
  rintro e w9 ⟨rfl, hu9⟩
  have s3 := (hu9.1.cell (p := ⟨w.heap.size, 0, none⟩) (by show w.heap.size < _; omega)).trans s3
  have s4 := (hu9.1.cell (p := ⟨w.heap.size, 1, none⟩) (by show w.heap.size < _; omega)).trans s4
  have lb8 : b < w8.heap.size := by omega
  have hz9 : w.heap.size < w9.heap.size := by have := hu9.1.size; omega
  have r0 := (hu9.1.cell (p := ⟨b, off, none⟩) lb8).trans r0
  have r1 := (hu9.1.cell (p := ⟨b, off + 1, none⟩) lb8).trans r1
  have r2 := (hu9.1.cell (p := ⟨b, off + 2, none⟩) lb8).trans r2
  have r3 := (hu9.1.cell (p := ⟨b, off + 3, none⟩) lb8).trans r3
  have r4 := (hu9.1.cell (p := ⟨b, off + 4, none⟩) lb8).trans r4
  rcases pA with rfl | rfl <;> rcases pB with rfl | rfl
  all_goals first | (have dm := pM rfl rfl; clear pM) | clear pM
  all_goals rcases pC with d1 | ⟨d1, d2⟩ | ⟨d1, d2, d3 | ⟨d3, d4⟩ | ⟨d3, d4, d5⟩ | ⟨d3, d4, d5, d6⟩ | ⟨d3, d4, d5, d6, d7, d8, d9⟩⟩
  all_goals first | exact absurd d3 (by decide) | skip
  all_goals go_wp2_with fail
  all_goals go_ret
  all_goals exact ⟨by first | rfl | (rw [← d7]; rfl) | (simp_all; done), fin _ (by first | exact hu9.alloc _ | exact hu9)⟩

theorem growsC (b off n c : Nat) (X : Nat → St) (x y : Int) (w : World) (hn0 : 0 < n) (hlb : b < w.heap.size) (h : RdS w b off n X) :
    Calls Try.prog 4 #[.slice (some ⟨b, off, none⟩) n c, .agg #[.int .i64 x, .int .i64 y]] w fun r w' => r = .returned (.bool true) ∧ Below w.heap.size w w' := by
  by_cases h1 : n ≤ 20
  · by_cases h2 : wrongF X n = 0
    · exact growsGood b off n c X x y w (wrongF_okay h2) h1 hlb h
    · exact growsBad b off n c X x y w hn0 hlb h (.inr ⟨h1, h2⟩)
  · exact growsBad b off n c X x y w hn0 hlb h (.inl (by omega))
end Go.Proofs.Ytgfbmdpjgcibjaa
