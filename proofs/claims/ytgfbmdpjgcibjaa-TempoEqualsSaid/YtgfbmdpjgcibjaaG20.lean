/- The methods of a nil map; Equal. -/
import Derived.Test.YtgfbmdpjgcibjaaG16
namespace Go.Proofs.Ytgfbmdpjgcibjaa
open Go.RowKit

set_option maxHeartbeats 2000000 in
theorem findNil (w : World) : Calls Try.prog 32 #[.pointer none, .int .i64 0] w fun r w' => r = .returned (.tuple #[stV 0 0 0 0 0, .int .i64 1]) ∧ Up w w' := by
  go_enter Try.func32, Try.ntmps32
  go_wp2_with fail
  go_returns
  exact ⟨rfl, (((Up.refl w).alloc _).alloc _).alloc _⟩
theorem lastNil (w : World) : Calls Try.prog 34 #[.pointer none] w fun r w' => r = .returned (stV 0 0 0 0 0) ∧ Up w w' := by
  go_enter Try.func34, Try.ntmps34
  go_wp2_with fail
  go_returns
  exact ⟨rfl, ((Up.refl w).alloc _)⟩
theorem microsNil (w : World) : Calls Try.prog 15 #[.pointer none, .int .i64 0] w fun r w' => r = .returned (.tuple #[.int .i64 0, .int .i64 1]) ∧ Up w w' := by
  go_enter Try.func15, Try.ntmps15
  go_wp2_with fail
  refine (findNil _).mono ?_
  rintro e w1 ⟨rfl, hu⟩
  go_wp2_with fail
  go_ret2
  exact ⟨rfl, hu.alloc _⟩
theorem atNil (w : World) : Calls Try.prog 22 #[.pointer none, .int .i64 0] w fun r w' => r = .returned (.tuple #[.int .i64 0, .int .i64 1]) ∧ Up w w' := by
  go_enter Try.func22, Try.ntmps22
  go_wp2_with fail
  refine (findNil _).mono ?_
  rintro e w1 ⟨rfl, hu⟩
  go_wp2_with fail
  go_ret2
  exact ⟨rfl, hu.alloc _⟩
theorem tickNil (w : World) : Calls Try.prog 20 #[.pointer none, .int .i64 0] w fun r w' => r = .returned (.tuple #[.int .i64 0, .int .i64 1]) ∧ Up w w' := by
  go_enter Try.func20, Try.ntmps20
  go_wp2_with fail
  go_ret2
  exact ⟨rfl, ((Up.refl w).alloc _).alloc _⟩
theorem beginNil (w : World) : Calls Try.prog 25 #[.pointer none, .int .i64 0] w fun r w' => r = .returned (.tuple #[.int .i64 0, .int .i64 1]) ∧ Up w w' := by
  go_enter Try.func25, Try.ntmps25
  go_wp2_with fail
  go_ret2
  exact ⟨rfl, Up.refl w⟩
theorem ticksNil (w : World) : Calls Try.prog 16 #[.pointer none] w fun r w' => r = .returned (.int .i64 0) ∧ Up w w' := by
  have hfd : ∀ w, (Instr.field 38 (stV 0 0 0 0 0) 1).run Try.prog w = .ok (.int .i64 0) w := by intro w; kernel_rfl
  go_enter Try.func16, Try.ntmps16
  go_wp2_with fail
  refine (lastNil _).mono ?_
  rintro e w1 ⟨rfl, hu⟩
  go_wp2_with fail
  go_ret
  exact ⟨rfl, hu⟩
theorem totalNil (w : World) : Calls Try.prog 17 #[.pointer none] w fun r w' => r = .returned (.int .i64 0) ∧ Up w w' := by
  go_enter Try.func17, Try.ntmps17
  go_wp2_with fail
  refine (lastNil _).mono ?_
  rintro e w1 ⟨rfl, hu⟩
  go_wp2_with fail
  go_ret
  exact ⟨rfl, hu.alloc _⟩
theorem stretchesNil (w : World) : Calls Try.prog 27 #[.pointer none] w fun r w' => r = .returned (.slice none 0 0) ∧ Up w w' := by
  go_enter Try.func27, Try.ntmps27
  go_wp2_with fail
  go_ret
  exact ⟨rfl, Up.refl w⟩
theorem equalNil (w : World) : Calls Try.prog 28 #[.pointer none, .pointer none] w fun r w' => r = .returned (.bool true) ∧ Up w w' := by
  go_enter Try.func28, Try.ntmps28
  go_wp2_with fail
  go_ret
  exact ⟨rfl, Up.refl w⟩
theorem equalNilL (p : Nat) (w : World) : Calls Try.prog 28 #[.pointer none, .pointer (some ⟨p, 0, none⟩)] w fun r w' => r = .returned (.bool false) ∧ Up w w' := by
  have hq : ∀ w : World, Sem.run Try.prog (binOp .eql 32 (.pointer none) (.pointer (some ⟨p, 0, none⟩))) w = .ok (.bool false) w := by intro w; kernel_rfl
  go_enter Try.func28, Try.ntmps28
  go_wp2_with fail
  go_ret
  exact ⟨rfl, Up.refl w⟩
theorem equalNilR (p : Nat) (w : World) : Calls Try.prog 28 #[.pointer (some ⟨p, 0, none⟩), .pointer none] w fun r w' => r = .returned (.bool false) ∧ Up w w' := by
  go_enter Try.func28, Try.ntmps28
  go_wp2_with fail
  go_ret
  exact ⟨rfl, Up.refl w⟩
theorem intsNil (w : World) : Calls Try.prog 46 #[.slice none 0 0, .slice none 0 0] w fun r w' => r = .returned (.bool true) ∧ ∃ q, w' = w.drewN q := by
  go_enter Try.func46, Try.ntmps46
  go_wp2_with fail
  go_loopw [13] (fun i wr => i = .int .i64 0 ∧ wr = w) (fun _ _ => 0)
  case atStart => exact ⟨rfl, rfl⟩
  case round =>
    obtain ⟨rfl, rfl⟩ := hrel
    go_wp2_with fail

    go_ret
    exact ⟨rfl, 0, rfl⟩

/-- Are these stretches the same? -/
noncomputable def sameF (X Y : Nat → St) (n m : Nat) : Bool := @decide (n = m ∧ ∀ k, k < n → X k = Y k) (Classical.propDecidable _)
theorem sameF_self (X : Nat → St) (n : Nat) : sameF X X n n = true := by simp [sameF]
theorem sameF_symm (X Y : Nat → St) (n m : Nat) : sameF Y X m n = sameF X Y n m := by
  unfold sameF
  congr 1
  apply propext
  constructor
  · rintro ⟨rfl, h⟩; exact ⟨rfl, fun k hk => (h k hk).symm⟩
  · rintro ⟨rfl, h⟩; exact ⟨rfl, fun k hk => (h k hk).symm⟩

theorem sameC (b1 o1 n c b2 o2 m d : Nat) (X Y : Nat → St) (w : World) (hn : n ≤ 1000) (hX : RdS w b1 o1 n X) (hY : RdS w b2 o2 m Y) :
    Calls Try.prog 26 #[.slice (some ⟨b1, o1, none⟩) n c, .slice (some ⟨b2, o2, none⟩) m d] w fun r w' => r = .returned (.bool (sameF X Y n m)) ∧ ∃ q, w' = w.drewN q := by
  unfold sameF
  by_cases hnm : n = m
  · subst hnm
    refine (sameEq b1 o1 n c b2 o2 d X Y w hn hX hY).mono ?_
    rintro e w1 ⟨h, hq⟩
    refine ⟨?_, hq⟩
    rcases h with ⟨rfl, h⟩ | ⟨rfl, h⟩
    · rw [@decide_eq_true _ (Classical.propDecidable _) ⟨rfl, h⟩]
    · rw [@decide_eq_false _ (Classical.propDecidable _) (fun hh => h hh.2)]
  · refine (sameNe b1 o1 n c b2 o2 m d w hnm).mono ?_
    rintro e w1 ⟨rfl, hq⟩
    refine ⟨?_, hq⟩
    rw [@decide_eq_false _ (Classical.propDecidable _) (fun hh => hnm hh.1)]
theorem slicesEqC (b1 o1 n c b2 o2 m d : Nat) (X Y : Nat → St) (w : World) (hn : n ≤ 1000) (hX : RdS w b1 o1 n X) (hY : RdS w b2 o2 m Y) :
    Calls Try.prog 45 #[.slice (some ⟨b1, o1, none⟩) n c, .slice (some ⟨b2, o2, none⟩) m d] w fun r w' => r = .returned (.bool (sameF X Y n m)) ∧ ∃ q, w' = w.drewN q := by
  unfold sameF
  by_cases hnm : n = m
  · subst hnm
    refine (equalEq b1 o1 n c b2 o2 d X Y w hn hX hY).mono ?_
    rintro e w1 ⟨h, hq⟩
    refine ⟨?_, hq⟩
    rcases h with ⟨rfl, h⟩ | ⟨rfl, h⟩
    · rw [@decide_eq_true _ (Classical.propDecidable _) ⟨rfl, h⟩]
    · rw [@decide_eq_false _ (Classical.propDecidable _) (fun hh => h hh.2)]
  · refine (equalNe b1 o1 n c b2 o2 m d w hnm).mono ?_
    rintro e w1 ⟨rfl, hq⟩
    refine ⟨?_, hq⟩
    rw [@decide_eq_false _ (Classical.propDecidable _) (fun hh => hnm hh.1)]

set_option maxHeartbeats 1000000 in
theorem equalC (p q n m : Nat) (X Y : Nat → St) (w : World) (hn : n ≤ 1000) (hX : MapRd w p n X) (hY : MapRd w q m Y) :
    Calls Try.prog 28 #[.pointer (some ⟨p, 0, none⟩), .pointer (some ⟨q, 0, none⟩)] w fun r w' => r = .returned (.bool (sameF X Y n m)) ∧ Up w w' := by
  obtain ⟨lp, g, cap, h0, h1, lg, hr⟩ := hX
  obtain ⟨lq, g2, cap2, k0, k1, lg2, hr2⟩ := hY
  have hS := fun j => slicesEqC g 0 n cap g2 0 m cap2 X Y (w.drewN j) hn hr hr2
  generalize sameF X Y n m = B at *
  clear hr hr2
  cases B
  · go_enter Try.func28, Try.ntmps28
    go_wp2_with fail
    go_quiet (first | (go_at_call 45; exact Calls.quiet_of (hS _)))
    go_wp2_with fail
    go_ret
    exact ⟨rfl, (Up.refl w).drawnN _⟩
  · go_enter Try.func28, Try.ntmps28
    go_wp2_with fail
    go_quiet (first | (go_at_call 45; exact Calls.quiet_of (hS _)) | (go_at_call 46; exact Calls.quiet_of (intsNil _)))
    go_wp2_with fail
    go_ret
    exact ⟨rfl, (Up.refl w).drawnN _⟩
end Go.Proofs.Ytgfbmdpjgcibjaa
