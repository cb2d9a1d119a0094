/- The model's timed. -/
import Derived.Test.YtgfbmdpjgcibjaaG12
namespace Go.Proofs.Ytgfbmdpjgcibjaa
open Go.RowKit

theorem owns_drewN {w : World} {base : Nat} {e : TypeId} {size : Nat} {v : Value} {n : Nat} {xs : List Value} (h : w.ownsRow base e size v n xs) (q : Nat) : (w.drewN q).ownsRow base e size v n xs := h

theorem new2N (w : World) (a b : Obj) (q : Nat) : (((w.alloc a).drewN q).alloc b).heap[w.heap.size + 1]? = some b := by
  have h := heap_alloc_new ((w.alloc a).drewN q) b
  have e : ((w.alloc a).drewN q).heap.size = w.heap.size + 1 := World.size_alloc _ _
  rw [e] at h
  exact h

set_option maxHeartbeats 4000000 in
theorem timedM (b off n c : Nat) (X : Nat → St) (w : World) (hX : Okay X n) (hn : n ≤ 1000) (hlb : b < w.heap.size) (h : RdS w b off n X) :
    Calls Try.prog 21 #[.slice (some ⟨b, off, none⟩) n c] w fun r w' => (∃ g cap, r = .returned (.slice (some ⟨g, 0, none⟩) n cap) ∧ w.heap.size ≤ g ∧ g < w'.heap.size ∧ RdS w' g 0 n (timedAt X)) ∧ Below w.heap.size w w' := by
  have n0 := hX.n0
  obtain ⟨i0, hi, hz0, hz1, hz2⟩ := info_parts info38
  have hi := Lib.hid hi
  go_enter Try.func21, Try.ntmps21
  go_wp2_with fail
  go_loopw [3, 4, 5] (fun out at_ i wr => ∃ k : Nat, k ≤ n ∧ i = .int .i64 k ∧ at_ = .int .i64 (tmF X k) ∧ wr.ownsRow w.heap.size 38 5 out k (cellsS (timedAt X) k) ∧ Below w.heap.size w wr) (fun _ _ i _ => n - (intOf i).toNat)
  case atStart => exact ⟨0, by omega, rfl, rfl, World.ownsRow_nil _ _ _ _, Below.refl _ _⟩
  case round =>
    obtain ⟨k, hk, rfl, rfl, hown, hbel⟩ := hrel
    by_cases hlt : k < n
    · obtain ⟨r0, r1, r2, r3, r4⟩ := h.below hbel hlb k hlt
      have hs := hbel.size
      have k0 := hX.begin0 k hlt
      have k1 := hX.be k hlt
      have k2 := hX.e1 k hlt
      have f0 := hX.f0 k hlt
      have f1 := hX.f1 k hlt
      have t0 := hX.t0 k hlt
      have t1 := hX.t1 k hlt
      obtain ⟨m0, m1⟩ := hX.tm k (by omega)
      obtain ⟨m2, m3⟩ := hX.tm (k + 1) (by omega)
      have hm4 : tmF X (k + 1) = tmF X k + intF (X k).f (X k).t ((X k).e - (X k).b) ((X k).e - (X k).b) := rfl
      have hm5 : endF X (k + 1) = (X k).e := rfl
      go_wp2_with fail
      refine (integralL _ _ _ _ _ f0 f1 t0 t1 (by omega) (by omega) (by omega) (Int.le_refl _)).mono ?_
      rintro e w2 ⟨rfl, q, rfl⟩
      go_wp2_with (at_builtin; refine wpList_append_lies _ rfl _ _ _ rfl w.heap.size 38 i0 (stV 0 0 0 0 0) 5 40 Try.underlying29 hi.out hz0 hz1 hz2 rfl (by omega) _ k _ (by rfl) ((owns_drewN (hown.alloc _) q).alloc _) ⟨wr.heap.size + 1, 0, none⟩ 1 1 (encSt (timedAt X k)) (by rfl) rfl ?_ ?_ (by omega) ?_ ?_ ?_ (wr.heap.size + 2) ?_ ?_)
      · refine World.news_of_block (t := 38) (fr := (0, 0)) (cs := (encSt (timedAt X k)).toArray) ?_
        exact new2N wr _ _ q
      · intro u hu; simp [encSt] at hu; rcases hu with rfl | rfl | rfl | rfl | rfl <;> rfl
      · unfold maxLen; omega
      · omega
      · simp; omega
      · simp
      · intro g cap w3 hown1 hgrow hat hlt1
        have hlo := hown.lt
        go_wp2_with fail
        go_roundw
        case rel => exact ⟨k + 1, by omega, by go_num, rfl, hown1, ((below_drewN' (hbel.alloc hs _) q).alloc (by simp; omega) _).grown hgrow (by simp; omega) (fun j hj => (hlo j hj).1)⟩
        case measure => simp [intOf]; omega
    · obtain rfl : k = n := by omega
      obtain ⟨g, cap, rfl, _, _⟩ := hown.form (by omega)
      go_wp2_with fail
      go_ret
      have hl := hown.lt g rfl
      exact ⟨⟨g, cap, rfl, hl.1, hl.2, RdS.ofCells fun j hj => hown.cellAt j hj⟩, hbel⟩
end Go.Proofs.Ytgfbmdpjgcibjaa
