/- TempoMakes: walk. -/
import Derived.Test.YtgfbmdpjgcibjaaG16
namespace Go.Proofs.Ytgfbmdpjgcibjaa
open Go.RowKit

theorem sameTrue (b1 n c b2 d : Nat) (X : Nat → St) (w : World) (hn : n ≤ 1000) (hX : RdS w b1 0 n X) (hY : RdS w b2 0 n X) :
    Calls Try.prog 26 #[.slice (some ⟨b1, 0, none⟩) n c, .slice (some ⟨b2, 0, none⟩) n d] w fun r w' => r = .returned (.bool true) ∧ ∃ q, w' = w.drewN q := by
  refine (sameEq b1 0 n c b2 0 d X X w hn hX hY).mono ?_
  rintro e w1 ⟨h, q, rfl⟩
  rcases h with ⟨rfl, _⟩ | ⟨_, h⟩
  · exact ⟨rfl, q, rfl⟩
  · exact absurd (fun _ _ => rfl) h

theorem makes0 (A : Option Addr) (c : Nat) (w : World) :
    Calls Try.prog 9 #[.slice A 0 c] w fun r w' => r = .returned (.bool true) ∧ Below w.heap.size w w' := by
  go_enter Try.func9, Try.ntmps9
  go_wp2_with fail
  refine (known _).mono ?_
  rintro e w1 ⟨rfl, hb1⟩
  go_wp2_with fail
  refine (make0 _ _ _).mono ?_
  rintro e w2 ⟨rfl, rfl⟩
  go_wp2_with fail
  refine (wrong0 _ _ _).mono ?_
  rintro e w2 ⟨rfl, rfl⟩
  go_wp2_with fail
  go_ret
  exact ⟨rfl, hb1⟩

set_option maxHeartbeats 2000000 in
theorem makesBad (b off n c : Nat) (X : Nat → St) (w : World) (hn0 : 0 < n) (hlb : b < w.heap.size) (h : RdS w b off n X) (hw : 20 < n ∨ (n ≤ 20 ∧ wrongF X n ≠ 0)) :
    Calls Try.prog 9 #[.slice (some ⟨b, off, none⟩) n c] w fun r w' => r = .returned (.bool true) ∧ Below w.heap.size w w' := by
  rcases hw with hw | ⟨hw, hw2⟩
  · clear h
    go_enter Try.func9, Try.ntmps9
    go_wp2_with fail
    refine (known _).mono ?_
    rintro e w1 ⟨rfl, hb1⟩
    go_wp2_with fail
    refine (known _).mono ?_
    rintro e w3 ⟨rfl, hb3⟩
    go_wp2_with fail
    go_ret
    have hb : Below w.heap.size w w1 := hb1
    exact ⟨rfl, hb.trans (hb3.mono hb.size)⟩
  · have e1 : (wrongF X n != 0) = true := by simpa using hw2
    have e5 : decide ((20 : Int) < n) = false := decide_eq_false (by omega)
    go_enter Try.func9, Try.ntmps9
    go_wp2_with fail
    refine (known _).mono ?_
    rintro e w1 ⟨rfl, hb1⟩
    have hb : Below w.heap.size w w1 := hb1
    have hz := hb.size
    have hr := h.below hb hlb
    go_wp2_with fail
    refine (makeC b off n c X w1 hn0 (by omega) (by omega) hr).mono ?_
    rintro e w2 ⟨h3, hb2⟩
    rcases h3 with ⟨_, rfl⟩ | ⟨h3, _⟩
    · have hr2 := hr.below hb2 (by omega)
      have hz2 := hb2.size
      go_wp2_with fail
      refine (wrongC b off n c X w2 hn0 (by omega) (by omega) hr2).mono ?_
      rintro e w3 ⟨rfl, hb3⟩
      go_wp2_with fail
      go_ret
      have hb' := hb.trans (hb2.mono hz)
      exact ⟨rfl, hb'.trans (hb3.mono hb'.size)⟩
    · exact absurd h3 hw2

set_option maxHeartbeats 8000000 in
theorem makesGood (b off n c : Nat) (X : Nat → St) (w : World) (hX : Okay X n) (hn : n ≤ 20) (hlb : b < w.heap.size) (h : RdS w b off n X) :
    Calls Try.prog 9 #[.slice (some ⟨b, off, none⟩) n c] w fun r w' => r = .returned (.bool true) ∧ Below w.heap.size w w' := by
  have n0 := hX.n0
  have hw0 := okay_wrongF hX
  have e5 : decide ((20 : Int) < n) = false := decide_eq_false (by omega)
  have e1 : IntKind.i64.wrap ((n : Int) - 1) = ((n - 1 : Nat) : Int) := by rw [IntWalk.i64_in _ (by omega)]; omega
  have hend := hX.end_pos
  have hme := hX.micros_end
  have hmM := fun g cap w h => microsM g 0 n cap X (X (n - 1)).e w hX (by omega) h (by omega) (Int.le_refl _)
  have hmT := fun p w h => totalC p n X w hX (by omega) h
  have hmK := fun p w h => ticksC p n (timedAt X) w n0 (by omega) h
  have hmS := fun p w h => stretchesC p n (timedAt X) w n0 (by omega) h
  have hmE := fun b1 c b2 d w h1 h2 => sameTrue b1 n c b2 d (timedAt X) w (by omega) h1 h2
  have ee : (timedAt X (n - 1)).e = (X (n - 1)).e := rfl
  rw [hme] at hmM
  clear hme
  go_enter Try.func9, Try.ntmps9
  go_wp2_with fail
  refine (known _).mono ?_
  rintro e w1 ⟨rfl, hb⟩
  have hz := hb.size
  have hr1 := h.below hb hlb
  go_wp2_with fail
  refine (makeC b off n c X w1 n0 (by omega) (by omega) hr1).mono ?_
  rintro e w2 ⟨h3, hb2⟩
  rcases h3 with ⟨h3, _⟩ | ⟨_, p, rfl, hM⟩
  · exact absurd hw0 h3
  have hM2 := hM.rd
  have hr2 := hr1.below hb2 (by omega)
  have hz2 := hb2.size
  have B2 := hb.trans (hb2.mono hz)
  go_wp2_with fail
  refine (wrongC b off n c X w2 n0 (by omega) (by omega) hr2).mono ?_
  rintro e w3 ⟨rfl, hb3⟩
  have hM3 := hM2.below hb3
  have B3 := B2.trans (hb3.mono B2.size)
  have hr3 := hr2.below hb3 (by omega)
  have hz3 := B3.size
  rw [hw0]
  go_wp2_with fail
  refine (timedM b off n c X w3 hX (by omega) (by omega) hr3).mono ?_
  rintro e w4 ⟨⟨g, cap, rfl, hg0, hg1, hrd⟩, hb4⟩
  have hM4 := hM3.below hb4
  have B4 := B3.trans (hb4.mono hz3)
  clear hr1 hr2 hr3 h hb2 hb3 hw0 hM hM2 hM3
  obtain ⟨r0, r1, r2, r3, r4⟩ := hrd (n - 1) (by omega)
  simp only [Nat.zero_add] at r0 r1 r2 r3 r4
  generalize hmm : n - 1 = m at *
  have hmn : m < n := by omega
  generalize hY : timedAt X = Y at *
  go_wp2_with fail
  refine (beginBad p n Y _ ?_).mono ?_
  · exact hM4.below ((Up.refl w4).alloc _).1
  rintro e w5 ⟨rfl, hu5⟩
  have U5 : Up w4 w5 := ((Up.refl w4).alloc _).trans hu5
  have hM5 := hM4.below U5.1
  have hr5 := hrd.below U5.1 hg1
  have B5 := B4.trans (U5.1.mono B4.size)
  have z5 : w4.heap.size < w5.heap.size := by have := hu5.1.size; simp at this; omega
  have zg : g < w5.heap.size := by omega
  have c5 : w5.cell? ⟨w4.heap.size, 1, none⟩ = some (.int .i64 (X m).e) := (hu5.1.cell (p := ⟨_, _, none⟩) (by simp)).trans (by simp [go_sem])
  clear hu5 hM4 hrd B4 r0 r1 r2 r3 r4
  go_wp2_with fail
  go_region_held3 (fun w' => w'.cell? ⟨w4.heap.size, 1, none⟩ = some (.int .i64 (X m).e))
    (first | exact cE1 | exact cD1 | exact cC1 | exact cA1 | exact c5)
    (first
    | (go_at_call 27
       refine (hmS p _ ?_).mono ?_
       exact hM5.drew
       rintro e wA ⟨⟨gA, cA, rfl, hA0, hA1, hrA⟩, hbA⟩
       have hMA := (hM5.drew).below hbA
       have hrgA := RdS.below hr5 (w := w5.drew) hbA zg
       have BA := (B5.drew).trans (hbA.mono B5.size)
       have cA1 := (hbA.cell (p := ⟨w4.heap.size, 1, none⟩) z5).trans c5
       have zA : w5.heap.size ≤ wA.heap.size := hbA.size
       have zBA : w.heap.size ≤ wA.heap.size := BA.size)
    | (go_at_call 26
       (refine (hmE gA cA g cap _ hrA hrgA).mono ?_
        rintro e wB ⟨rfl, q, rfl⟩))
    | (go_at_call 16
       (refine (hmK p _ (hMA.drewN q)).mono ?_
        rintro e wC ⟨rfl, huC⟩
        have hMC := (hMA.drewN q).below huC.1
        have hrC := RdS.below hrgA (w := wA.drewN q) huC.1 (Nat.lt_of_lt_of_le zg zA)
        have BC := (below_drewN' BA q).trans (huC.1.mono zBA)
        have cC1 := (huC.1.cell (p := ⟨w4.heap.size, 1, none⟩) (Nat.lt_of_lt_of_le z5 zA)).trans cA1
        have zC : wA.heap.size ≤ wC.heap.size := huC.1.size))
    | (go_at_call 17
       (refine (hmT p _ hMC).mono ?_
        rintro e wD ⟨rfl, huD⟩
        have hrD := RdS.below hrC (w := wC) huD.1 (by omega)
        have BD := BC.trans (huD.1.mono (by omega))
        have cD1 := (huD.1.cell (p := ⟨w4.heap.size, 1, none⟩) (Nat.lt_of_lt_of_le z5 (Nat.le_trans zA zC))).trans cC1
        have zD : wC.heap.size ≤ wD.heap.size := huD.1.size))
    | (go_at_call 23
       (refine (hmM g cap _ hrD).mono ?_
        rintro e wE ⟨rfl, huE⟩
        have BE := BD.trans (huE.1.mono (by omega))
        have cE1 := (huE.1.cell (p := ⟨w4.heap.size, 1, none⟩) (Nat.lt_of_lt_of_le z5 (Nat.le_trans zA (Nat.le_trans zC zD)))).trans cD1)))
  all_goals
    go_wp2_with fail
    go_ret
    exact ⟨rfl, BE⟩
theorem makesC (b off n c : Nat) (X : Nat → St) (w : World) (hn0 : 0 < n) (hlb : b < w.heap.size) (h : RdS w b off n X) :
    Calls Try.prog 9 #[.slice (some ⟨b, off, none⟩) n c] w fun r w' => r = .returned (.bool true) ∧ Below w.heap.size w w' := by
  by_cases h1 : n ≤ 20
  · by_cases h2 : wrongF X n = 0
    · exact makesGood b off n c X w (wrongF_okay h2) h1 hlb h
    · exact makesBad b off n c X w hn0 hlb h (.inr ⟨h1, h2⟩)
  · exact makesBad b off n c X w hn0 hlb h (.inl (by omega))
end Go.Proofs.Ytgfbmdpjgcibjaa
