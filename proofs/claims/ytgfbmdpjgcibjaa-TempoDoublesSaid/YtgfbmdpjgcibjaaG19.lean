/- TempoDoubles: walk. -/
import Derived.Test.YtgfbmdpjgcibjaaG18
import Derived.Test.YtgfbmdpjgcibjaaG13
namespace Go.Proofs.Ytgfbmdpjgcibjaa
open Go.RowKit

theorem new2D (w : World) (a b : Obj) : ((w.alloc a).alloc b).heap[w.heap.size + 1]? = some b := by
  have h := heap_alloc_new (w.alloc a) b
  rw [World.size_alloc] at h
  exact h

theorem doubles0 (A : Option Addr) (c : Nat) (x : Int) (w : World) :
    Calls Try.prog 5 #[.slice A 0 c, .int .i64 x] w fun r w' => r = .returned (.bool true) ∧ Below w.heap.size w w' := by
  go_enter Try.func5, Try.ntmps5
  go_wp2_with fail
  refine (known _).mono ?_
  rintro e w1 ⟨rfl, hb1⟩
  go_wp2_with fail
  refine (wrong0 _ _ _).mono ?_
  rintro e w2 ⟨rfl, rfl⟩
  have hz := hb1.size
  go_wp2_with fail
  refine (known _).mono ?_
  rintro e w3 ⟨rfl, hb3⟩
  go_wp2_with fail
  go_ret
  have hb : Below w.heap.size w w1 := hb1
  exact ⟨rfl, hb.trans (hb3.mono hb.size)⟩

set_option maxHeartbeats 2000000 in
theorem doublesBad (b off n c : Nat) (X : Nat → St) (x : Int) (w : World) (hn0 : 0 < n) (hlb : b < w.heap.size) (h : RdS w b off n X) (hw : 20 < n ∨ (n ≤ 20 ∧ wrongF X n ≠ 0)) :
    Calls Try.prog 5 #[.slice (some ⟨b, off, none⟩) n c, .int .i64 x] w fun r w' => r = .returned (.bool true) ∧ Below w.heap.size w w' := by
  rcases hw with hw | ⟨hw, hw2⟩
  · clear h
    go_enter Try.func5, Try.ntmps5
    go_wp2_with fail
    refine (known _).mono ?_
    rintro e w1 ⟨rfl, hb1⟩
    go_wp2_with fail
    refine (known _).mono ?_
    rintro e w3 ⟨rfl, hb3⟩
    go_wp2_with fail
    go_ret
    have hb : Below w.heap.size w w1 := hb1
    exact ⟨rfl, hb.trans (hb3.mono hb.size)⟩
  · have e1 : (wrongF X n != 0) = true := by simpa using hw2
    have e5 : decide ((20 : Int) < n) = false := decide_eq_false (by omega)
    go_enter Try.func5, Try.ntmps5
    go_wp2_with fail
    refine (known _).mono ?_
    rintro e w1 ⟨rfl, hb1⟩
    have hb : Below w.heap.size w w1 := hb1
    have hz := hb.size
    have hr := h.below hb hlb
    go_wp2_with fail
    refine (wrongC b off n c X w1 hn0 (by omega) (by omega) hr).mono ?_
    rintro e w2 ⟨rfl, hb2⟩
    go_wp2_with fail
    refine (known _).mono ?_
    rintro e w3 ⟨rfl, hb3⟩
    go_wp2_with fail
    go_ret
    have hb' := hb.trans (hb2.mono hz)
    exact ⟨rfl, hb'.trans (hb3.mono hb'.size)⟩

set_option maxHeartbeats 4000000 in
theorem doublesGood (b off n c : Nat) (X : Nat → St) (x : Int) (w : World) (hX : Okay X n) (hn : n ≤ 20) (hlb : b < w.heap.size) (h : RdS w b off n X) :
    Calls Try.prog 5 #[.slice (some ⟨b, off, none⟩) n c, .int .i64 x] w fun r w' => r = .returned (.bool true) ∧ Below w.heap.size w w' := by
  have n0 := hX.n0
  have hw0 := okay_wrongF hX
  have e5 : decide ((20 : Int) < n) = false := decide_eq_false (by omega)
  go_enter Try.func5, Try.ntmps5
  go_wp2_with fail
  refine (known _).mono ?_
  rintro e w1 ⟨rfl, hb⟩
  have hz := hb.size
  have hr1 := h.below hb hlb
  go_wp2_with fail
  refine (wrongC b off n c X w1 n0 (by omega) (by omega) hr1).mono ?_
  rintro e w2 ⟨rfl, hb2⟩
  have hr2 := hr1.below hb2 (by omega)
  have hz2 := hb2.size
  have B2 := hb.trans (hb2.mono hz)
  rw [hw0]
  clear hb2
  obtain ⟨i0, hi, hz0', hz1', hz2'⟩ := info_parts info38
  have hi := Lib.hid hi
  go_wp2_with fail
  go_loopw [5, 6] (fun out i wr => ∃ k : Nat, k ≤ n ∧ i = .int .i64 k ∧ Aside (∀ j, j < k → (X j).f ≤ 30000000 ∧ (X j).t ≤ 30000000) ∧ wr.ownsRow w2.heap.size 38 5 out k (cellsS (dbl X) k) ∧ Below w2.heap.size w2 wr) (fun _ i _ => n - (intOf i).toNat)
  case atStart => exact ⟨0, by omega, rfl, (show Aside _ from fun j hj => absurd hj (Nat.not_lt_zero _)), World.ownsRow_nil _ _ _ _, Below.refl _ _⟩
  case round =>
    obtain ⟨k, hk, rfl, hA, hown, hbel⟩ := hrel
    have hs := hbel.size
    have hbw : b < w2.heap.size := by have := B2.size; omega
    by_cases hlt : k < n
    · obtain ⟨r0, r1, r2, r3, r4⟩ := hr2.below hbel hbw k hlt
      have f0 := hX.f0 k hlt
      have f1 := hX.f1 k hlt
      have t0 := hX.t0 k hlt
      have t1 := hX.t1 k hlt
      by_cases hf : 30000000 < (X k).f
      · have d1 : decide ((30000000 : Int) < (X k).f) = true := decide_eq_true hf
        go_wp2_with fail
        go_ret
        exact ⟨rfl, B2.trans ((hbel.alloc hs _).mono B2.size)⟩
      have d1 : decide ((30000000 : Int) < (X k).f) = false := decide_eq_false hf
      by_cases ht : 30000000 < (X k).t
      · have d2 : decide ((30000000 : Int) < (X k).t) = true := decide_eq_true ht
        go_wp2_with fail
        go_ret
        exact ⟨rfl, B2.trans ((hbel.alloc hs _).mono B2.size)⟩
      have d2 : decide ((30000000 : Int) < (X k).t) = false := decide_eq_false ht
      have hA2 : Aside (∀ j, j < k + 1 → (X j).f ≤ 30000000 ∧ (X j).t ≤ 30000000) := (show Aside _ from fun j hj => by
          by_cases hjk : j = k
          · subst hjk; omega
          · exact hA.out j (by omega))
      go_wp2_with (at_builtin; refine wpList_append_lies _ rfl _ _ _ rfl w2.heap.size 38 i0 (stV 0 0 0 0 0) 5 40 Try.underlying29 hi.out hz0' hz1' hz2' rfl (by omega) _ k _ (by rfl) ((hown.alloc _).alloc _) ⟨wr.heap.size + 1, 0, none⟩ 1 1 (encSt (dbl X k)) (by rfl) rfl ?_ ?_ (by omega) ?_ ?_ ?_ (wr.heap.size + 2) ?_ ?_)
      · exact fun j u hu => hu
      · intro u hu; simp [encSt] at hu; rcases hu with rfl | rfl | rfl | rfl | rfl <;> rfl
      · unfold maxLen; omega
      · omega
      · omega
      · intro g cap w3 hown1 hgrow hat hlt1
        have hlo := hown.lt
        go_wp2_with fail
        go_roundw
        case rel => exact ⟨k + 1, by omega, by go_num, hA2, hown1, ((hbel.alloc hs _).alloc (by simp; omega) _).grown hgrow (by simp; omega) (fun j hj => (hlo j hj).1)⟩
        case measure => simp [intOf]; omega
    · obtain rfl : k = n := by omega
      obtain ⟨g, cap, rfl, _, _⟩ := hown.form (by omega)
      have hl := hown.lt g rfl
      have hrd : RdS wr g 0 k (dbl X) := RdS.ofCells fun j hj => hown.cellAt j hj
      have hD : Okay (dbl X) k := dbl_okay hX (fun j hj => (hA.out j hj).1) (fun j hj => (hA.out j hj).2)
      have hD0 := okay_wrongF hD
      obtain ⟨q0, q1, q2, q3⟩ := dbl_ans hX x
      have hr3 := hr2.below hbel hbw
      have B3 := B2.trans (hbel.mono B2.size)
      go_wp2_with fail
      refine (makeC b off k c X wr n0 (by omega) (by omega) hr3).mono ?_
      rintro e w3 ⟨h3, hb3⟩
      rcases h3 with ⟨h3, _⟩ | ⟨_, p, rfl, hM⟩
      · exact absurd hw0 h3
      have hM3 := hM.rd
      have hrd3 := hrd.below hb3 hl.2
      have B4 := B3.trans (hb3.mono B3.size)
      have hz3 := hb3.size
      go_wp2_with fail
      refine (makeC g 0 k cap (dbl X) w3 n0 (by omega) (by omega) hrd3).mono ?_
      rintro e w4 ⟨h4, hb4⟩
      rcases h4 with ⟨h4, _⟩ | ⟨_, p2, rfl, hN⟩
      · exact absurd hD0 h4
      have hN4 := hN.rd
      have hM4 := hM3.below hb4
      have B5 := B4.trans (hb4.mono B4.size)
      go_wp2_with fail
      refine (microsC p k X x w4 hX (by omega) hM4).mono ?_
      rintro e w5 ⟨rfl, hu5⟩
      have hN5 := hN4.below hu5.1
      have hmN := microsC p2 k (dbl X) x w5 hD (by omega) hN5
      rw [q0] at hmN
      generalize ansV (dbl X) k x = V2 at *
      generalize ansV X k x = V at *
      generalize ansE X k x = E at *
      have d8 : decide (2 * V ≤ V2) = true := decide_eq_true q1.1
      have d9 : decide (V2 ≤ 2 * V + k) = true := decide_eq_true q1.2
      go_wp2_with fail
      refine hmN.mono ?_
      rintro e w6 ⟨rfl, hu6⟩
      go_wp2_with fail
      go_ret
      exact ⟨rfl, B5.trans ((hu5.trans hu6).1.mono B5.size)⟩

theorem doublesC (b off n c : Nat) (X : Nat → St) (x : Int) (w : World) (hn0 : 0 < n) (hlb : b < w.heap.size) (h : RdS w b off n X) :
    Calls Try.prog 5 #[.slice (some ⟨b, off, none⟩) n c, .int .i64 x] w fun r w' => r = .returned (.bool true) ∧ Below w.heap.size w w' := by
  by_cases h1 : n ≤ 20
  · by_cases h2 : wrongF X n = 0
    · exact doublesGood b off n c X x w (wrongF_okay h2) h1 hlb h
    · exact doublesBad b off n c X x w hn0 hlb h (.inr ⟨h1, h2⟩)
  · exact doublesBad b off n c X x w hn0 hlb h (.inl (by omega))
end Go.Proofs.Ytgfbmdpjgcibjaa
