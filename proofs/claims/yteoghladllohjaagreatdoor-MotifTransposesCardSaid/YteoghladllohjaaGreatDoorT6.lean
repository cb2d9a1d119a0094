/- interval.Transpose: the closures, MinFunc, spelled. -/
import Derived.Test.YteoghladllohjaaGreatDoorT5
namespace Go.Proofs.YteoghladllohjaaGreatDoor
open Go.RowKit Go.Shelf Go.Sort

def farF (at_ : Int) (p : Pit) : Int := if posF p - at_ < at_ - posF p then at_ - posF p else posF p - at_
set_option maxHeartbeats 1000000 in
theorem farC (s a o at_ : Int) (b : Nat) (w : World) (h1 : 0 ≤ s) (h2 : s ≤ 6) (h3 : -1 ≤ o) (h4 : o ≤ 9) (h5 : -1000 ≤ at_) (h6 : at_ ≤ 1000) (hb : b < w.heap.size) (hc : w.cell? ⟨b, 0, none⟩ = some (.int .i64 at_)) :
    Calls Tryz.prog 28 #[.agg #[.int .i64 s, .int .i64 a, .int .i64 o], .pointer (some ⟨b, 0, none⟩)] w fun e w' => e = .returned (.int .i64 (farF at_ ⟨s, a, o⟩)) ∧ Below w.heap.size w w' := by
  have hp := fun W => posC s a o W (by omega) (by omega) (by omega) (by omega)
  have hb' : b ≠ w.heap.size := by omega
  show Calls _ _ _ _ fun e w' => e = .returned (.int .i64 (if 7 * o + s - at_ < at_ - (7 * o + s) then at_ - (7 * o + s) else 7 * o + s - at_)) ∧ Below w.heap.size w w'
  have y0 : (w.alloc (.cells #[.int .i64 s, .int .i64 a, .int .i64 o] 26)).cell? ⟨w.heap.size, 0, none⟩ = some (.int .i64 s) := by simp [go_sem]
  have y1 : (w.alloc (.cells #[.int .i64 s, .int .i64 a, .int .i64 o] 26)).cell? ⟨w.heap.size, 1, none⟩ = some (.int .i64 a) := by simp [go_sem]
  have y2 : (w.alloc (.cells #[.int .i64 s, .int .i64 a, .int .i64 o] 26)).cell? ⟨w.heap.size, 2, none⟩ = some (.int .i64 o) := by simp [go_sem]
  have hB : Below w.heap.size w (w.alloc (.cells #[.int .i64 s, .int .i64 a, .int .i64 o] 26)) := (Below.refl _ w).alloc (Nat.le_refl _) _
  have yc : (w.alloc (.cells #[.int .i64 s, .int .i64 a, .int .i64 o] 26)).cell? ⟨b, 0, none⟩ = some (.int .i64 at_) := (hB.cell (p := ⟨b, 0, none⟩) hb).trans hc
  have hP1 : -7 ≤ 7 * o + s := by omega
  have hP2 : 7 * o + s ≤ 69 := by omega
  have ew1 : IntKind.i64.wrap (7 * o + s - at_) = 7 * o + s - at_ := IntWalk.i64_in _ (by omega)
  have ew2 : IntKind.i64.wrap (at_ - (7 * o + s)) = at_ - (7 * o + s) := IntWalk.i64_in _ (by omega)
  generalize 7 * o + s = P at *
  go_enter Tryz.func28, Tryz.ntmps28
  go_upto_region 1 with (fail)
  generalize (w.alloc (.cells #[.int .i64 s, .int .i64 a, .int .i64 o] 26)) = v at *
  have c0 := cell_regrown y0
  have c1 := cell_regrown y1
  have c2 := cell_regrown y2
  have c3 := cell_regrown yc
  have k1 := fun d os => (hp (grow (redrawn v d) os)).regrown_of
  refine wp_region_quiet_below (by kernel_rfl) (by kernel_rfl) ?_
  repeat (quiet_step ((go_at_call 29; (with_reducible exact k1 _ _))))
  refine wpQuiet_nil ?_
  intro _ hw'
  obtain ⟨⟨dq, osq⟩, hw''⟩ := hw'
  subst hw''
  go_wp2_with fail
  all_goals
    go_ret
    exact ⟨ret_int (by first | omega | (rw [Int.max_def]; split <;> omega)), hB.trans ((below_regrown v dq osq).mono hB.size)⟩
/-- The order by distance. -/
def cmpFar (at_ : Int) (p q : Pit) : Int := farF at_ p - farF at_ q
set_option maxHeartbeats 1000000 in
theorem cmpFarC (p q : Pit) (at_ : Int) (b c : Nat) (w : World) (h1 : 0 ≤ p.st) (h2 : p.st ≤ 6) (h3 : -1 ≤ p.oc) (h4 : p.oc ≤ 9) (g1 : 0 ≤ q.st) (g2 : q.st ≤ 6) (g3 : -1 ≤ q.oc) (g4 : q.oc ≤ 9) (h5 : -1000 ≤ at_) (h6 : at_ ≤ 1000) (hb : b < w.heap.size) (hc : w.cell? ⟨b, 0, none⟩ = some (.int .i64 at_)) (hb' : c < w.heap.size) (hc' : w.cell? ⟨c, 0, none⟩ = some (.func (.func 28) #[] #[.pointer (some ⟨b, 0, none⟩)])) :
    Calls Tryz.prog 31 #[pitV p, pitV q, .pointer (some ⟨c, 0, none⟩)] w fun e w' => e = .returned (.int .i64 (cmpFar at_ p q)) ∧ Below w.heap.size w w' := by
  obtain ⟨s, x, o⟩ := p
  obtain ⟨t, y, r⟩ := q
  simp only at h1 h2 h3 h4 g1 g2 g3 g4
  have hB : Below w.heap.size w ((w.alloc (.cells #[.int .i64 s, .int .i64 x, .int .i64 o] 26)).alloc (.cells #[.int .i64 t, .int .i64 y, .int .i64 r] 26)) := ((Below.refl _ w).alloc (Nat.le_refl _) _).alloc (by simp) _
  have y0 : ((w.alloc (.cells #[.int .i64 s, .int .i64 x, .int .i64 o] 26)).alloc (.cells #[.int .i64 t, .int .i64 y, .int .i64 r] 26)).cell? ⟨w.heap.size, 0, none⟩ = some (.int .i64 s) := by simp [go_sem]
  have y1 : ((w.alloc (.cells #[.int .i64 s, .int .i64 x, .int .i64 o] 26)).alloc (.cells #[.int .i64 t, .int .i64 y, .int .i64 r] 26)).cell? ⟨w.heap.size, 1, none⟩ = some (.int .i64 x) := by simp [go_sem]
  have y2 : ((w.alloc (.cells #[.int .i64 s, .int .i64 x, .int .i64 o] 26)).alloc (.cells #[.int .i64 t, .int .i64 y, .int .i64 r] 26)).cell? ⟨w.heap.size, 2, none⟩ = some (.int .i64 o) := by simp [go_sem]
  have z0 : ((w.alloc (.cells #[.int .i64 s, .int .i64 x, .int .i64 o] 26)).alloc (.cells #[.int .i64 t, .int .i64 y, .int .i64 r] 26)).cell? ⟨w.heap.size + 1, 0, none⟩ = some (.int .i64 t) := by simp [go_sem]
  have z1 : ((w.alloc (.cells #[.int .i64 s, .int .i64 x, .int .i64 o] 26)).alloc (.cells #[.int .i64 t, .int .i64 y, .int .i64 r] 26)).cell? ⟨w.heap.size + 1, 1, none⟩ = some (.int .i64 y) := by simp [go_sem]
  have z2 : ((w.alloc (.cells #[.int .i64 s, .int .i64 x, .int .i64 o] 26)).alloc (.cells #[.int .i64 t, .int .i64 y, .int .i64 r] 26)).cell? ⟨w.heap.size + 1, 2, none⟩ = some (.int .i64 r) := by simp [go_sem]
  have yc := (hB.cell (p := ⟨b, 0, none⟩) hb).trans hc
  have yd := (hB.cell (p := ⟨c, 0, none⟩) hb').trans hc'
  have hb2 := Nat.lt_of_lt_of_le hb hB.size
  show Calls _ _ _ _ fun e w' => e = .returned (.int .i64 (farF at_ ⟨s, x, o⟩ - farF at_ ⟨t, y, r⟩)) ∧ Below w.heap.size w w'
  have hf1 := fun W h k => farC s x o at_ b W h1 h2 h3 h4 h5 h6 h k
  have hf2 := fun W h k => farC t y r at_ b W g1 g2 g3 g4 h5 h6 h k
  have n1 : -2000 ≤ farF at_ ⟨s, x, o⟩ ∧ farF at_ ⟨s, x, o⟩ ≤ 2000 := by unfold farF posF; simp only; split <;> omega
  have n2 : -2000 ≤ farF at_ ⟨t, y, r⟩ ∧ farF at_ ⟨t, y, r⟩ ≤ 2000 := by unfold farF posF; simp only; split <;> omega
  generalize farF at_ ⟨s, x, o⟩ = A at *
  generalize farF at_ ⟨t, y, r⟩ = B at *
  obtain ⟨n1, n3⟩ := n1
  obtain ⟨n2, n4⟩ := n2
  go_enter Tryz.func31, Tryz.ntmps31
  go_upto_region 1 with (fail)
  generalize ((w.alloc (.cells #[.int .i64 s, .int .i64 x, .int .i64 o] 26)).alloc (.cells #[.int .i64 t, .int .i64 y, .int .i64 r] 26)) = v at *
  have c0 := cell_regrown y0
  have c1 := cell_regrown y1
  have c2 := cell_regrown y2
  have c3 := cell_regrown z0
  have c4 := cell_regrown z1
  have c5 := cell_regrown z2
  have c6 := cell_regrown yc
  have c7 := cell_regrown yd
  have k1 := fun d os => (hf1 (grow (redrawn v d) os) (Nat.lt_of_lt_of_le hb2 (below_regrown v d os).size) (c6 d os)).regrown_of
  have k2 := fun d os => (hf2 (grow (redrawn v d) os) (Nat.lt_of_lt_of_le hb2 (below_regrown v d os).size) (c6 d os)).regrown_of
  refine wp_region_quiet_below (by kernel_rfl) (by kernel_rfl) ?_
  repeat (quiet_step ((first | (go_at_fn 28; (first | (with_reducible exact k1 _ _) | (with_reducible exact k2 _ _))) | (go_at_call 28; (first | (with_reducible exact k1 _ _) | (with_reducible exact k2 _ _))))))
  refine wpQuiet_nil ?_
  intro _ hw'
  obtain ⟨⟨dq, osq⟩, hw''⟩ := hw'
  subst hw''
  go_wp2_with fail
  go_ret
  exact ⟨ret_int (IntWalk.i64_in _ (by omega)), hB.trans ((below_regrown v dq osq).mono hB.size)⟩
end Go.Proofs.YteoghladllohjaaGreatDoor
