/- timed. -/
import Derived.Test.YtgfbmdpjgcibjaaE6
namespace Go.Proofs.Ytgfbmdpjgcibjaa
open Go.RowKit

/-- A map of n stretches lies at p, in blocks from B on. -/
structure MapAt (w : World) (B p n : Nat) (Y : Nat → St) : Prop where
  lp : p < w.heap.size
  bp : B ≤ p
  ex : ∃ g cap, w.cell? ⟨p, 0, none⟩ = some (.slice (some ⟨g, 0, none⟩) n cap) ∧ w.cell? ⟨p, 1, none⟩ = some (.slice none 0 0) ∧ B ≤ g ∧ g < w.heap.size ∧ RdS w g 0 n Y

def mixS (X : Nat → St) (k j : Nat) : St := if j < k then timedAt X j else X j

set_option maxHeartbeats 2000000 in
theorem timedC (b off n c : Nat) (X : Nat → St) (w : World) (hX : Okay X n) (hn : n ≤ 1000) (h : RdS w b off n X) :
    Calls Try.prog 31 #[.slice (some ⟨b, off, none⟩) n c] w fun r w' => (∃ p, r = .returned (.pointer (some ⟨p, 0, none⟩)) ∧ MapAt w' w.heap.size p n (timedAt X)) ∧ Below w.heap.size w w' := by
  have hcl := cloneC b off n c X w hX.n0 hn h
  have n0 := hX.n0
  clear h
  go_enter Try.func31, Try.ntmps31
  go_wp2_with fail
  refine hcl.mono ?_
  rintro e w1 ⟨⟨g, cap, rfl, hg, hown⟩, hb1⟩
  have hg1 := hown.lt
  have hz1 := hb1.size
  go_wp2_with fail
  go_loopw [4, 16] (fun at_ i wr => ∃ k : Nat, k ≤ n ∧ i = .int .i64 k ∧ at_ = .int .i64 (tmF X k) ∧ Own wr g cap n (mixS X k) ∧ wr.cell? ⟨w1.heap.size, 0, none⟩ = some (.slice (some ⟨g, 0, none⟩) n cap) ∧ wr.cell? ⟨w1.heap.size, 1, none⟩ = some (.slice none 0 0) ∧ Below w.heap.size w wr ∧ w1.heap.size < wr.heap.size) (fun _ i _ => n - (intOf i).toNat)
  case atStart =>
    refine ⟨0, by omega, rfl, rfl, ?_, ?_, ?_, hb1.alloc hz1 _, by simp⟩
    · have e : mixS X 0 = X := funext fun j => if_neg (by omega)
      rw [e]
      exact hown.below ((Below.refl _ w1).alloc (Nat.le_refl _) _) hg1
    · simp [go_sem]
    · simp [go_sem]
  case round =>
    obtain ⟨k, hk, rfl, rfl, hO, hc0, hc1, hbw, hzw⟩ := hrel
    have hfr := hO.frozen (k * 5 + 4)
    by_cases hlt : k < n
    · obtain ⟨r0, r1, r2, r3, r4⟩ := hO.rd k hlt
      simp only [Nat.zero_add] at r0 r1 r2 r3 r4
      have hz := hb1.size
      have hS := hO.stored k hlt (tmF X k)
      rw [Nat.zero_add] at hS
      have hbS : ∀ B, B ≤ g → Below B wr (wr.setCell ⟨g, k * 5 + 4, none⟩ (.int .i64 (tmF X k))) := fun B hB => ⟨rfl, rfl, rfl, by simp [World.setCell], fun j hj => heap_setCell_other _ _ _ _ (by simp; omega)⟩
      have hsz : (wr.setCell ⟨g, k * 5 + 4, none⟩ (.int .i64 (tmF X k))).heap.size = wr.heap.size := by simp [World.setCell]
      have hcS : ∀ j, (wr.setCell ⟨g, k * 5 + 4, none⟩ (.int .i64 (tmF X k))).cell? ⟨w1.heap.size, j, none⟩ = wr.cell? ⟨w1.heap.size, j, none⟩ := fun j => World.cell?_of_block (heap_setCell_other _ _ _ _ (by simp; omega))
      go_wp2_with fail
      generalize hw2 : wr.setCell ⟨g, k * 5 + 4, none⟩ (.int .i64 (tmF X k)) = w2 at hS hbS hsz hcS ⊢
      clear hw2
      have hk1 : mixS X k k = X k := if_neg (by omega)
      obtain ⟨s0, s1, s2, s3, s4⟩ := hS.rd k hlt
      simp only [if_true, hk1, Nat.zero_add] at s0 s1 s2 s3 s4
      have hg2 := hS.lt
      have hI := hX.inS k hlt (tick := (X k).e) (Int.le_of_lt (hX.be k hlt)) (Int.le_refl _)
      go_region_held3 (fun w' => w'.cell? ⟨g, k * 5, none⟩ = some (.int .i64 (X k).b) ∧ w'.cell? ⟨g, k * 5 + 1, none⟩ = some (.int .i64 (X k).e) ∧ w'.cell? ⟨g, k * 5 + 2, none⟩ = some (.int .i64 (X k).f) ∧ w'.cell? ⟨g, k * 5 + 3, none⟩ = some (.int .i64 (X k).t) ∧ w'.cell? ⟨g, k * 5 + 4, none⟩ = some (.int .i64 (tmF X k)))
        (first | go_keep | (refine ⟨(hc3 _ _ ?_).trans ?_, (hc3 _ _ ?_).trans ?_, (hc3 _ _ ?_).trans ?_, (hc3 _ _ ?_).trans ?_, (hc3 _ _ ?_).trans ?_⟩ <;> first | assumption | (simp; omega)))
        ((go_at_call 33; refine (untilC (X k).b (X k).e (X k).f (X k).t (tmF X k) (X k).e _ hI).mono ?_; rintro e w3 ⟨rfl, hb3⟩; obtain ⟨hc3, hf3⟩ := bcell hb3))
      have hz3 := hb3.size
      have hs3 : w2.heap.size ≤ w3.heap.size := by simpa using hz3
      go_wp2_with fail
      go_roundw
      case rel =>
        refine ⟨k + 1, by omega, by go_num, rfl, ?_, ?_, ?_, ?_, by omega⟩
        · have e : mixS X (k + 1) = fun j => if j = k then ⟨(mixS X k j).b, (mixS X k j).e, (mixS X k j).f, (mixS X k j).t, tmF X k⟩ else mixS X k j := by
            funext j
            by_cases hj : j = k
            · subst hj
              rw [if_pos rfl, hk1]
              exact if_pos (by omega)
            · rw [if_neg hj]
              unfold mixS
              by_cases hjk : j < k
              · rw [if_pos hjk, if_pos (by omega)]
              · rw [if_neg hjk, if_neg (by omega)]
          rw [e]
          exact hS.below (B := w2.heap.size) (by first | exact hb3 | exact ⟨hb3.os, hb3.tape, hb3.output, hb3.size, hb3.block⟩) hg2
        · rw [hc3 _ _ (by simp; omega)]; exact (hcS 0).trans hc0
        · rw [hc3 _ _ (by simp; omega)]; exact (hcS 1).trans hc1
        · have hb3' : Below w2.heap.size w2 w3 := by first | exact hb3 | exact ⟨hb3.os, hb3.tape, hb3.output, hb3.size, hb3.block⟩
          exact (hbw.trans (hbS _ hg)).trans (hb3'.mono (by omega))
      case measure => simp [intOf]; omega
    · obtain rfl : k = n := by omega
      go_wp2_with fail
      go_ret
      have hz := hb1.size
      have e : ∀ j, j < k → mixS X k j = timedAt X j := fun j hj => if_pos hj
      refine ⟨⟨w1.heap.size, rfl, hzw, by omega, g, cap, hc0, hc1, hg, hO.lt, ?_⟩, hbw⟩
      intro j hj
      have := hO.rd j hj
      rw [e j hj] at this
      exact this
end Go.Proofs.Ytgfbmdpjgcibjaa
