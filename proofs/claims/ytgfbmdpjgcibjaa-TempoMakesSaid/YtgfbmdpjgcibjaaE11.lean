/- find where it finds, Micros. -/
import Derived.Test.YtgfbmdpjgcibjaaE10
namespace Go.Proofs.Ytgfbmdpjgcibjaa
open Go.RowKit

theorem searchC (ba bx p n : Nat) (X : Nat → St) (tick : Int) (w : World) (hX : Okay X n) (hn : n ≤ 1000) (h0 : 0 ≤ tick) (h1 : tick ≤ (X (n - 1)).e)
    (hp : w.cell? ⟨ba, 0, none⟩ = some (.pointer (some ⟨p, 0, none⟩))) (hx : w.cell? ⟨bx, 0, none⟩ = some (.int .i64 tick)) (lba : ba < w.heap.size) (lbx : bx < w.heap.size) (hM : MapRd w p n (timedAt X)) :
    Calls Try.prog 40 #[.int .i64 n, .func (.func 48) #[] #[.pointer (some ⟨ba, 0, none⟩), .pointer (some ⟨bx, 0, none⟩)]] w fun r w' => r = .returned (.int .i64 ((kF X n tick : Int) + 1)) ∧ Up w w' := by
  have eg : ∀ args w, (callFunc 48 args).run Try.prog w = .ok (.enter 48 args) w := enters_of Try.func48 (by kernel_rfl) rfl
  have hS := Any.sort_Search Try.laysSearch 48 #[.pointer (some ⟨ba, 0, none⟩), .pointer (some ⟨bx, 0, none⟩)] n (fun i => decide (tick < (X i).b)) w eg (by omega)
    (fun m os i hi => by
      have hu := Up.of_grow (w := w) m os
      refine (closC ba bx p n (timedAt X) tick i _ hi ((hu.1.cell (p := ⟨_, _, none⟩) lba).trans hp) ((hu.1.cell (p := ⟨_, _, none⟩) lbx).trans hx) (hM.below hu.1)).mono ?_
      rintro e w' ⟨he, q, hq⟩
      exact ⟨he, q, #[], by rw [hq, Go.Sort.grow_empty]⟩) (hX.mono tick)
  refine hS.mono ?_
  rintro e w' ⟨rfl, q, os, rfl⟩
  refine ⟨?_, Up.of_grow q os⟩
  rw [(kF_spec hX h0 h1).1]
  rfl

set_option maxHeartbeats 2000000 in
theorem findGood (p n : Nat) (X : Nat → St) (tick : Int) (w : World) (hX : Okay X n) (hn : n ≤ 1000) (hM : MapRd w p n (timedAt X)) (h0t : 0 ≤ tick) (h1t : tick ≤ (X (n - 1)).e) :
    Calls Try.prog 32 #[.pointer (some ⟨p, 0, none⟩), .int .i64 tick] w fun r w' => r = .returned (.tuple #[stv (timedAt X (kF X n tick)), .int .i64 0]) ∧ Up w w' := by
  have lp := hM.lp
  have hM3 : MapRd (W3 w p tick) p n (timedAt X) := hM.below (W3_up w p tick).1
  obtain ⟨lp3, g, cap, h0, h1, lg, hr⟩ := hM3
  have hM3 : MapRd (W3 w p tick) p n (timedAt X) := ⟨lp3, g, cap, h0, h1, lg, hr⟩
  have n0 := hX.n0
  have e2 : ((n : Int) == 0) = false := by simp; omega
  have c0 := W3_0 w p tick
  have c1 := W3_1 w p tick
  have hK := (kF_spec hX h0t h1t).2.1
  have e3 : decide (tick < 0) = false := decide_eq_false (by omega)
  have hT : ∀ w', MapRd w' p n (timedAt X) → Calls Try.prog 16 #[.pointer (some ⟨p, 0, none⟩)] w' fun r w'' => r = .returned (.int .i64 (X (n - 1)).e) ∧ Up w' w'' := fun w' h => ticksC p n (timedAt X) w' n0 hn h
  have hz3 := W3_size w p tick
  simp only [W3] at h0 c0 c1 hM3
  go_enter Try.func32, Try.ntmps32
  go_wp2_with fail
  go_region_held3 (fun w' => w'.cell? ⟨w.heap.size, 0, none⟩ = some (.pointer (some ⟨p, 0, none⟩)) ∧ w'.cell? ⟨w.heap.size + 1, 0, none⟩ = some (.int .i64 tick) ∧ w'.cell? ⟨p, 0, none⟩ = some (.slice (some ⟨g, 0, none⟩) n cap) ∧ MapRd w' p n (timedAt X))
    (first | (refine ⟨?_, ?_, ?_, ?_⟩ <;> first | assumption | (exact MapRd.drew hM3) | exact c0 | exact c1 | exact h0) | (exact ⟨(hc3 _ _ (by first | (simp; done) | (simp; omega))).trans (by first | assumption | exact c0), (hc3 _ _ (by first | (simp; done) | (simp; omega))).trans (by first | assumption | exact c1), (hc3 _ _ (by first | (simp; done) | (simp; omega))).trans (by first | assumption | exact h0), MapRd.below (by first | assumption | exact hM3.drew) hu3.1⟩))
    ((go_at_call 16; refine (hT _ (by first | assumption | exact hM3.drew | (go_split_ands; assumption))).mono ?_; rintro e w3 ⟨rfl, hu3⟩; obtain ⟨hc3, hf3⟩ := bcell hu3.1))
  have hu : Up (W3 w p tick) w3 := (Up.refl _).drew.trans hu3
  obtain ⟨b0, a0, a1, a2, a3, a4, af⟩ := W3_rest hu.1
  have b1 : w3.cell? ⟨w.heap.size + 1, 0, none⟩ = some (.int .i64 tick) := (hu.1.cell (p := ⟨_, _, none⟩) (by simp; omega)).trans (W3_1 w p tick)
  have hM4 : MapRd w3 p n (timedAt X) := MapRd.below (show MapRd (W3 w p tick) p n (timedAt X) from hM3) hu.1
  have hd0 : w3.cell? ⟨p, 0, none⟩ = some (.slice (some ⟨g, 0, none⟩) n cap) := (hu.1.cell (p := ⟨_, _, none⟩) lp3).trans h0
  have hsz3 := hu.1.size
  have hS := searchC w.heap.size (w.heap.size + 1) p n X tick w3 hX hn h0t h1t b0 b1 (by omega) (by omega) hM4
  go_wp2_with fail
  refine hS.mono ?_
  rintro e w4 ⟨rfl, hu4⟩
  have hu' : Up (W3 w p tick) w4 := hu.trans hu4
  clear b0 a0 a1 a2 a3 a4 af hd0 b1
  obtain ⟨b0, a0, a1, a2, a3, a4, af⟩ := W3_rest hu'.1
  have hd0 : w4.cell? ⟨p, 0, none⟩ = some (.slice (some ⟨g, 0, none⟩) n cap) := (hu'.1.cell (p := ⟨_, _, none⟩) lp3).trans h0
  obtain ⟨r0, r1, r2, r3, r4⟩ := (RdS.below hr hu'.1 lg) (kF X n tick) hK
  simp only [Nat.zero_add] at r0 r1 r2 r3 r4
  generalize hKe : kF X n tick = K at *
  go_wp2_with fail
  refine bodyPost_ret (v := .tuple #[stv (timedAt X K), .int .i64 0]) ?_ rfl ⟨by rw [hKe], ((W3_up w p tick).trans hu').set5 (B := w.heap.size + 1 + 1) (by omega) _ _ _ _ _⟩
  rw [results_cell_tmp rfl]
  simp [go_sem, a0, a1, a2, a3, a4]

/-- When a tick is. -/
def microsAt (X : Nat → St) (n : Nat) (tick : Int) : Int := untilF (timedAt X (kF X n tick)) tick

set_option maxHeartbeats 1000000 in
theorem microsGood (p n : Nat) (X : Nat → St) (tick : Int) (w : World) (hX : Okay X n) (hn : n ≤ 1000) (hM : MapRd w p n (timedAt X)) (h0t : 0 ≤ tick) (h1t : tick ≤ (X (n - 1)).e) :
    Calls Try.prog 15 #[.pointer (some ⟨p, 0, none⟩), .int .i64 tick] w fun r w' => r = .returned (.tuple #[.int .i64 (microsAt X n tick), .int .i64 0]) ∧ Up w w' := by
  have hF := findGood p n X tick w hX hn hM h0t h1t
  obtain ⟨_, k1, k2, k3, _⟩ := kF_spec hX h0t h1t
  have hI := hX.inS (kF X n tick) k1 k2 k3
  simp only [stv, stV] at hF
  clear hM k2 k3
  unfold microsAt
  go_enter Try.func15, Try.ntmps15
  go_wp2_with fail
  refine hF.mono ?_
  rintro e w1 ⟨rfl, hu⟩
  go_wp2_with fail
  refine (untilU _ _ _ _ _ _ _ hI).mono ?_
  rintro e w2 ⟨rfl, hu2⟩
  go_wp2_with fail
  go_ret2
  exact ⟨rfl, (hu.alloc _).trans hu2⟩

set_option maxHeartbeats 1000000 in
theorem microsBad (p n : Nat) (X : Nat → St) (tick : Int) (w : World) (hX : Okay X n) (hn : n ≤ 1000) (hM : MapRd w p n (timedAt X)) (h : tick < 0 ∨ (X (n - 1)).e < tick) :
    Calls Try.prog 15 #[.pointer (some ⟨p, 0, none⟩), .int .i64 tick] w fun r w' => r = .returned (.tuple #[.int .i64 0, .int .i64 2]) ∧ Up w w' := by
  have hF := findBad p n X tick w hX hn hM h
  simp only [stV] at hF
  clear hM h
  go_enter Try.func15, Try.ntmps15
  go_wp2_with fail
  refine hF.mono ?_
  rintro e w1 ⟨rfl, hu⟩
  go_wp2_with fail
  go_ret2
  exact ⟨rfl, hu.alloc _⟩
end Go.Proofs.Ytgfbmdpjgcibjaa
