/- Tick. -/
import Derived.Test.YtgfbmdpjgcibjaaG5
namespace Go.Proofs.Ytgfbmdpjgcibjaa
open Go.RowKit

def laterB (X : Nat → St) (n : Nat) (at_ : Int) (i : Nat) : Bool := decide (at_ < microsAt X n i)
/-- The last tick that is not later. -/
def tickF (X : Nat → St) (n : Nat) (at_ : Int) : Int := ((List.range ((X (n - 1)).e + 1).toNat).countP (fun i => !laterB X n at_ i) : Nat) - 1
theorem later_mono {X : Nat → St} {n : Nat} (h : Okay X n) (at_ : Int) : ∀ a b, a ≤ b → b < ((X (n - 1)).e + 1).toNat → laterB X n at_ a = true → laterB X n at_ b = true := by
  intro a b hab hb h1
  have := h.micros_mono (a := a) (b := b) (by omega) (by omega) (by omega)
  have h1 := of_decide_eq_true h1
  exact decide_eq_true (by omega)
theorem tickF_spec {X : Nat → St} {n : Nat} (h : Okay X n) {at_ : Int} (h0 : 0 ≤ at_) :
    0 ≤ tickF X n at_ ∧ tickF X n at_ ≤ (X (n - 1)).e ∧ microsAt X n (tickF X n at_) ≤ at_ ∧ (tickF X n at_ < (X (n - 1)).e → at_ < microsAt X n (tickF X n at_ + 1)) := by
  obtain ⟨c1, c2, c3⟩ := cnt_spec (laterB X n at_) ((X (n - 1)).e + 1).toNat (later_mono h at_)
  have he := h.end_pos
  unfold tickF
  generalize (List.range ((X (n - 1)).e + 1).toNat).countP (fun i => !laterB X n at_ i) = c at *
  have hc : 0 < c := by
    rcases Nat.eq_zero_or_pos c with h2 | h2
    · have := of_decide_eq_true (c2 0 (by omega) (by omega))
      rw [show ((0 : Nat) : Int) = 0 from rfl, h.micros_zero] at this
      omega
    · exact h2
  have d1 := of_decide_eq_false (c1 (c - 1) (by omega))
  rw [show ((c - 1 : Nat) : Int) = (c : Int) - 1 by omega] at d1
  refine ⟨by omega, by omega, by omega, fun hlt => ?_⟩
  have d2 := of_decide_eq_true (c2 c (Nat.le_refl _) (by omega))
  rw [show (c : Int) - 1 + 1 = c by omega]
  exact d2

set_option maxHeartbeats 1000000 in
theorem tickClos (ba bx p n : Nat) (X : Nat → St) (at_ : Int) (i : Nat) (w : World) (hX : Okay X n) (hn : n ≤ 1000) (hi : (i : Int) ≤ (X (n - 1)).e) (hp : w.cell? ⟨ba, 0, none⟩ = some (.pointer (some ⟨p, 0, none⟩))) (hx : w.cell? ⟨bx, 0, none⟩ = some (.int .i64 at_)) (hM : MapRd w p n (timedAt X)) :
    Calls Try.prog 39 (#[.int .i64 i] ++ #[.pointer (some ⟨ba, 0, none⟩), .pointer (some ⟨bx, 0, none⟩)]) w fun r w' => r = .returned (.bool (laterB X n at_ i)) ∧ Up w w' := by
  have hm := microsGood p n X i w hX hn hM (by omega) hi
  have lb : bx < w.heap.size := World.block_lt_of_cell? _ _ hx
  clear hM
  unfold laterB
  generalize microsAt X n i = V at hm ⊢
  go_enter Try.func39, Try.ntmps39
  go_wp2_with fail
  refine hm.mono ?_
  rintro e w1 ⟨rfl, hu⟩
  have hx1 := (hu.1.cell (p := ⟨bx, 0, none⟩) lb).trans hx
  go_wp2_with fail
  go_ret
  exact ⟨rfl, hu⟩

theorem tickSearch (ba bx p n : Nat) (X : Nat → St) (at_ : Int) (w : World) (hX : Okay X n) (hn : n ≤ 1000)
    (hp : w.cell? ⟨ba, 0, none⟩ = some (.pointer (some ⟨p, 0, none⟩))) (hx : w.cell? ⟨bx, 0, none⟩ = some (.int .i64 at_)) (lba : ba < w.heap.size) (lbx : bx < w.heap.size) (hM : MapRd w p n (timedAt X)) :
    Calls Try.prog 40 #[.int .i64 ((X (n - 1)).e + 1), .func (.func 39) #[] #[.pointer (some ⟨ba, 0, none⟩), .pointer (some ⟨bx, 0, none⟩)]] w fun r w' => r = .returned (.int .i64 (tickF X n at_ + 1)) ∧ Up w w' := by
  have eg : ∀ args w, (callFunc 39 args).run Try.prog w = .ok (.enter 39 args) w := enters_of Try.func39 (by kernel_rfl) rfl
  have he := hX.end_pos
  have he1 := hX.e1 (n - 1) (by have := hX.n0; omega)
  have hS := Any.sort_Search Try.laysSearch 39 #[.pointer (some ⟨ba, 0, none⟩), .pointer (some ⟨bx, 0, none⟩)] ((X (n - 1)).e + 1).toNat (laterB X n at_) w eg (by omega)
    (fun m os i hi => by
      have hu := Up.of_grow (w := w) m os
      refine (tickClos ba bx p n X at_ i _ hX hn (by omega) ((hu.1.cell (p := ⟨_, _, none⟩) lba).trans hp) ((hu.1.cell (p := ⟨_, _, none⟩) lbx).trans hx) (hM.below hu.1)).mono ?_
      rintro e w' ⟨he, hq⟩
      obtain ⟨q, os', h⟩ := hq.grown
      exact ⟨he, q, os', h⟩) (later_mono hX at_)
  rw [show (((X (n - 1)).e + 1).toNat : Int) = (X (n - 1)).e + 1 by omega] at hS
  refine hS.mono ?_
  rintro e w' ⟨rfl, q, os, rfl⟩
  refine ⟨?_, Up.of_grow q os⟩
  unfold tickF
  rw [Int.sub_add_cancel]

set_option maxHeartbeats 1000000 in
theorem tickBad (p : Nat) (at_ : Int) (w : World) (h : at_ < 0) :
    Calls Try.prog 20 #[.pointer (some ⟨p, 0, none⟩), .int .i64 at_] w fun r w' => r = .returned (.tuple #[.int .i64 0, .int .i64 2]) ∧ Up w w' := by
  go_enter Try.func20, Try.ntmps20
  go_wp2_with fail
  go_ret2
  exact ⟨rfl, ((Up.refl w).alloc _).alloc _⟩

set_option maxHeartbeats 1000000 in
theorem tickGood (p n : Nat) (X : Nat → St) (at_ : Int) (w : World) (hX : Okay X n) (hn : n ≤ 1000) (hM : MapRd w p n (timedAt X)) (h0 : 0 ≤ at_) :
    Calls Try.prog 20 #[.pointer (some ⟨p, 0, none⟩), .int .i64 at_] w fun r w' => r = .returned (.tuple #[.int .i64 (tickF X n at_), .int .i64 0]) ∧ Up w w' := by
  have he := hX.end_pos
  have he1 := hX.e1 (n - 1) (by have := hX.n0; omega)
  have hs := tickF_spec hX h0
  have hU : Up w ((w.alloc (.cells #[.pointer (some ⟨p, 0, none⟩)] 32)).alloc (.cells #[.int .i64 at_] 3)) := ((Up.refl w).alloc _).alloc _
  have hT := ticksC p n (timedAt X) _ hX.n0 hn (hM.below hU.1)
  have ee : (timedAt X (n - 1)).e = (X (n - 1)).e := rfl
  rw [ee] at hT
  go_enter Try.func20, Try.ntmps20
  go_wp2_with fail
  refine hT.mono ?_
  rintro e w1 ⟨rfl, hu1⟩
  have b0 : w1.cell? ⟨w.heap.size, 0, none⟩ = some (.pointer (some ⟨p, 0, none⟩)) := (hu1.1.cell (p := ⟨_, _, none⟩) (by simp; omega)).trans (by simp [go_sem])
  have b1 : w1.cell? ⟨w.heap.size + 1, 0, none⟩ = some (.int .i64 at_) := (hu1.1.cell (p := ⟨_, _, none⟩) (by simp)).trans (by simp [go_sem])
  have hz1 : w.heap.size + 1 < w1.heap.size := by have := hu1.1.size; simp at this; omega
  have hS := tickSearch w.heap.size (w.heap.size + 1) p n X at_ w1 hX hn b0 b1 (by omega) hz1 (hM.below (hU.trans hu1).1)
  generalize hTe : tickF X n at_ = T at *
  go_wp2_with fail
  refine hS.mono ?_
  rintro e w2 ⟨rfl, hu2⟩
  go_wp2_with fail
  go_ret2
  exact ⟨by rw [hTe]; first | rfl | simp, (hU.trans hu1).trans hu2⟩
end Go.Proofs.Ytgfbmdpjgcibjaa
