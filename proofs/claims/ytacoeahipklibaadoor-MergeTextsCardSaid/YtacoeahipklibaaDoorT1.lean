/- merge.Text at the example of known. -/
import Derived.Test.YtacoeahipklibaaDoorB1
namespace Go.Proofs.YtacoeahipklibaaDoor
open Go.RowKit

set_option maxHeartbeats 2000000 in
theorem itoaZero (w : World) : Calls Tryd.prog 31 #[.int .i64 0] w fun r w' => r = .returned (.string ⟨#[48]⟩) ∧ ∃ m, w' = w.drewN m := by
  go_enter Tryd.func31, Tryd.ntmps31
  go_wp2
  go_ret
  exact ⟨rfl, 0, rfl⟩
set_option maxHeartbeats 2000000 in
theorem itoaSeven (w : World) : Calls Tryd.prog 31 #[.int .i64 7] w fun r w' => r = .returned (.string ⟨#[55]⟩) ∧ ∃ m, w' = w.drewN m := by
  go_enter Tryd.func31, Tryd.ntmps31
  go_wp2
  go_ret
  exact ⟨rfl, 0, rfl⟩
theorem below_drewN' {B : Nat} {a w : World} (h : Below B a w) (n : Nat) : Below B a (w.drewN n) := ⟨h.os, h.tape, h.output, h.size, h.block⟩
theorem keep2 (w : World) (a b : Value) (t : TypeId) (m : Nat) : ((w.alloc (.cells #[a, b] t)).drewN m).cell? ⟨w.heap.size, 0, none⟩ = some a ∧ ((w.alloc (.cells #[a, b] t)).drewN m).cell? ⟨w.heap.size, 1, none⟩ = some b ∧ Below w.heap.size w ((w.alloc (.cells #[a, b] t)).drewN m) :=
  ⟨by simp [go_sem], by simp [go_sem], below_drewN' ((Below.refl _ w).alloc (Nat.le_refl _) _) m⟩

set_option maxHeartbeats 2000000 in
theorem idTextEx (w : World) : Calls Tryd.prog 25 #[.agg #[.int .i64 0, .int .i64 7]] w fun r w' => r = .returned (.string ⟨#[64, 48, 46, 55]⟩) ∧ Below w.heap.size w w' := by
  go_enter Tryd.func25, Tryd.ntmps25
  go_wp2_with fail
  go_region_held3 (fun w' => w'.cell? ⟨w.heap.size, 0, none⟩ = some (.int .i64 0) ∧ w'.cell? ⟨w.heap.size, 1, none⟩ = some (.int .i64 7) ∧ Below w.heap.size w w')
    (first | exact keep2 w _ _ 30 1 | exact keep2 w _ _ 30 _)
    (first
      | (go_at_call 31; refine (itoaZero _).mono ?_; rintro e w3 ⟨rfl, m, rfl⟩)
      | (go_at_call 31; refine (itoaSeven _).mono ?_; rintro e w3 ⟨rfl, m, rfl⟩))
  go_wp2_with fail
  go_ret
  exact ⟨rfl, (keep2 w _ _ 30 _).2.2⟩

theorem keep4 (w : World) (a b c d : Value) (t : TypeId) (m : Nat) : ((w.alloc (.cells #[a, b, c, d] t)).drewN m).cell? ⟨w.heap.size, 0, none⟩ = some a ∧ ((w.alloc (.cells #[a, b, c, d] t)).drewN m).cell? ⟨w.heap.size, 1, none⟩ = some b ∧
    ((w.alloc (.cells #[a, b, c, d] t)).drewN m).cell? ⟨w.heap.size, 2, none⟩ = some c ∧ ((w.alloc (.cells #[a, b, c, d] t)).drewN m).cell? ⟨w.heap.size, 3, none⟩ = some d ∧ Below w.heap.size w ((w.alloc (.cells #[a, b, c, d] t)).drewN m) :=
  ⟨by simp [go_sem], by simp [go_sem], by simp [go_sem], by simp [go_sem], below_drewN' ((Below.refl _ w).alloc (Nat.le_refl _) _) m⟩

theorem keep4b {w w3 : World} {a b c d : Value} {t : TypeId} (h : Below ((w.alloc (.cells #[a, b, c, d] t)).drewN 1).heap.size ((w.alloc (.cells #[a, b, c, d] t)).drewN 1) w3) : w3.cell? ⟨w.heap.size, 0, none⟩ = some a ∧ w3.cell? ⟨w.heap.size, 1, none⟩ = some b ∧
    w3.cell? ⟨w.heap.size, 2, none⟩ = some c ∧ w3.cell? ⟨w.heap.size, 3, none⟩ = some d ∧ Below w.heap.size w w3 := by
  obtain ⟨h0, h1, h2, h3, hb⟩ := keep4 w a b c d t 1
  have hlt : w.heap.size < ((w.alloc (.cells #[a, b, c, d] t)).drewN 1).heap.size := by show w.heap.size < (w.alloc _).heap.size; simp
  exact ⟨(h.cell (p := ⟨_, _, none⟩) hlt).trans h0, (h.cell (p := ⟨_, _, none⟩) hlt).trans h1, (h.cell (p := ⟨_, _, none⟩) hlt).trans h2, (h.cell (p := ⟨_, _, none⟩) hlt).trans h3, hb.trans (h.mono (Nat.le_of_lt hlt))⟩

set_option maxHeartbeats 2000000 in
theorem textEx (w : World) : Calls Tryd.prog 14 #[.agg #[.int .i64 0, .int .i64 7, (.string ⟨#[100, 121, 110, 97, 109, 105, 99]⟩), .int .i64 1]] w fun r w' => r = .returned (.string ⟨#[64, 48, 46, 55, 32, 100, 121, 110, 97, 109, 105, 99, 32, 108, 101, 102, 116]⟩) ∧ Below w.heap.size w w' := by
  go_enter Tryd.func14, Tryd.ntmps14
  go_wp2_with fail
  go_region_held3 (fun w' => w'.cell? ⟨w.heap.size, 0, none⟩ = some (.int .i64 0) ∧ w'.cell? ⟨w.heap.size, 1, none⟩ = some (.int .i64 7) ∧ w'.cell? ⟨w.heap.size, 2, none⟩ = some (.string ⟨#[100, 121, 110, 97, 109, 105, 99]⟩) ∧ w'.cell? ⟨w.heap.size, 3, none⟩ = some (.int .i64 1) ∧ Below w.heap.size w w')
    (first | exact keep4 w _ _ _ _ 32 1 | exact hk3)
    (first
      | (go_at_call 25; refine (idTextEx _).mono ?_; rintro e w3 ⟨rfl, hb3⟩; have hk3 := keep4b hb3))
  obtain ⟨g0, g1, g2, g3, gB⟩ := hk3
  go_wp2_with fail
  go_ret
  exact ⟨rfl, gB⟩
end Go.Proofs.YtacoeahipklibaaDoor
