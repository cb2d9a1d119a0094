/- Pitches in memory; interval.position and the order of pitches. -/
import Derived.Test.YteoghladllohjaaGreatDoorT2
namespace Go.Proofs.YteoghladllohjaaGreatDoor
open Go.RowKit Go.Shelf Go.Sort

def nthP (l : List Pit) (k : Nat) : Pit := l.getD k pit0
def posF (p : Pit) : Int := 7 * p.oc + p.st
def AtP (w : World) (b o : Nat) (p : Pit) : Prop :=
  w.cell? ⟨b, o, none⟩ = some (.int .i64 p.st) ∧ w.cell? ⟨b, o + 1, none⟩ = some (.int .i64 p.al) ∧ w.cell? ⟨b, o + 2, none⟩ = some (.int .i64 p.oc)
theorem AtP.below {w w' : World} {B b o : Nat} {p : Pit} (h : AtP w b o p) (hb : Below B w w') (hB : b < B) : AtP w' b o p :=
  ⟨(hb.cell (p := ⟨b, _, none⟩) hB).trans h.1, (hb.cell (p := ⟨b, _, none⟩) hB).trans h.2.1, (hb.cell (p := ⟨b, _, none⟩) hB).trans h.2.2⟩
def RdP (w : World) (b off : Nat) (l : List Pit) : Prop := ∀ k, k < l.length → AtP w b (off + k * 3) (nthP l k)
theorem RdP.below {w w' : World} {B b off : Nat} {l : List Pit} (h : RdP w b off l) (hb : Below B w w') (hB : b < B) : RdP w' b off l := fun k hk => (h k hk).below hb hB
theorem cellsP_get : ∀ (l : List Pit) (k j : Nat), k < l.length → j < 3 → (cellsP l)[k * 3 + j]? = (encP3 (nthP l k))[j]?
  | x :: l, 0, j, _, hj => by
    have : cellsP (x :: l) = encP3 x ++ cellsP l := rfl
    rw [this, List.getElem?_append_left (by simp [encP3]; omega)]
    simp [nthP]
  | x :: l, k + 1, j, hk, hj => by
    have : cellsP (x :: l) = encP3 x ++ cellsP l := rfl
    rw [this, List.getElem?_append_right (by simp [encP3]; omega)]
    have e : (k + 1) * 3 + j - (encP3 x).length = k * 3 + j := by simp [encP3]; omega
    rw [e, cellsP_get l k j (by simpa using hk) hj]
    rfl
/-- An own row of pitches. -/
theorem ownP_slice {w : World} {base : Nat} {v : Value} {l : List Pit} (h : OwnP w base v l) (h0 : 0 < l.length) : ∃ g cap, v = .slice (some ⟨g, 0, none⟩) l.length cap ∧ base ≤ g ∧ g < w.heap.size ∧ RdP w g 0 l := by
  obtain ⟨g, cap, rfl, _, _⟩ := World.ownsRow.form h h0
  have hl := World.ownsRow.lt h g rfl
  refine ⟨g, cap, rfl, hl.1, hl.2, fun k hk => ?_⟩
  have hc := fun j (hj : j < 3) => World.ownsRow.cellAt h (k * 3 + j) (by omega)
  have hg := fun j (hj : j < 3) => cellsP_get l k j hk hj
  rw [Nat.zero_add]
  exact ⟨by rw [show k * 3 = k * 3 + 0 by omega, hc 0 (by omega), hg 0 (by omega)]; rfl, by rw [hc 1 (by omega), hg 1 (by omega)]; rfl, by rw [hc 2 (by omega), hg 2 (by omega)]; rfl⟩

theorem posC (s a o : Int) (w : World) (h1 : -1000 ≤ s) (h2 : s ≤ 1000) (h3 : -1000 ≤ o) (h4 : o ≤ 1000) : Calls Tryz.prog 29 #[.agg #[.int .i64 s, .int .i64 a, .int .i64 o]] w fun e w' => e = .returned (.int .i64 (7 * o + s)) ∧ Below w.heap.size w w' := by
  go_enter Tryz.func29, Tryz.ntmps29
  go_wp2_with fail
  go_ret
  exact ⟨rfl, by go_grown⟩
set_option maxHeartbeats 1000000 in
theorem cmpC (a b : Pit) (w : World) (h1 : -1000 ≤ a.st) (h2 : a.st ≤ 1000) (h3 : -1000 ≤ a.oc) (h4 : a.oc ≤ 1000) (h5 : -1000 ≤ b.st) (h6 : b.st ≤ 1000) (h7 : -1000 ≤ b.oc) (h8 : b.oc ≤ 1000) :
    Calls Tryz.prog 41 #[pitV a, pitV b] w fun e w' => e = .returned (.int .i64 (posF a - posF b)) ∧ Below w.heap.size w w' := by
  obtain ⟨s, x, o⟩ := a
  obtain ⟨t, y, q⟩ := b
  simp only at h1 h2 h3 h4 h5 h6 h7 h8
  show Calls _ _ _ _ fun e w' => e = .returned (.int .i64 ((7 * o + s) - (7 * q + t))) ∧ Below w.heap.size w w'
  have hB : Below w.heap.size w ((w.alloc (.cells #[.int .i64 s, .int .i64 x, .int .i64 o] 26)).alloc (.cells #[.int .i64 t, .int .i64 y, .int .i64 q] 26)) := ((Below.refl _ w).alloc (Nat.le_refl _) _).alloc (by simp) _
  have y0 : ((w.alloc (.cells #[.int .i64 s, .int .i64 x, .int .i64 o] 26)).alloc (.cells #[.int .i64 t, .int .i64 y, .int .i64 q] 26)).cell? ⟨w.heap.size, 0, none⟩ = some (.int .i64 s) := by simp [go_sem]
  have y1 : ((w.alloc (.cells #[.int .i64 s, .int .i64 x, .int .i64 o] 26)).alloc (.cells #[.int .i64 t, .int .i64 y, .int .i64 q] 26)).cell? ⟨w.heap.size, 1, none⟩ = some (.int .i64 x) := by simp [go_sem]
  have y2 : ((w.alloc (.cells #[.int .i64 s, .int .i64 x, .int .i64 o] 26)).alloc (.cells #[.int .i64 t, .int .i64 y, .int .i64 q] 26)).cell? ⟨w.heap.size, 2, none⟩ = some (.int .i64 o) := by simp [go_sem]
  have z0 : ((w.alloc (.cells #[.int .i64 s, .int .i64 x, .int .i64 o] 26)).alloc (.cells #[.int .i64 t, .int .i64 y, .int .i64 q] 26)).cell? ⟨w.heap.size + 1, 0, none⟩ = some (.int .i64 t) := by simp [go_sem]
  have z1 : ((w.alloc (.cells #[.int .i64 s, .int .i64 x, .int .i64 o] 26)).alloc (.cells #[.int .i64 t, .int .i64 y, .int .i64 q] 26)).cell? ⟨w.heap.size + 1, 1, none⟩ = some (.int .i64 y) := by simp [go_sem]
  have z2 : ((w.alloc (.cells #[.int .i64 s, .int .i64 x, .int .i64 o] 26)).alloc (.cells #[.int .i64 t, .int .i64 y, .int .i64 q] 26)).cell? ⟨w.heap.size + 1, 2, none⟩ = some (.int .i64 q) := by simp [go_sem]
  go_enter Tryz.func41, Tryz.ntmps41
  go_upto_region 1 with (fail)
  generalize ((w.alloc (.cells #[.int .i64 s, .int .i64 x, .int .i64 o] 26)).alloc (.cells #[.int .i64 t, .int .i64 y, .int .i64 q] 26)) = v at *
  have c0 := cell_regrown y0
  have c1 := cell_regrown y1
  have c2 := cell_regrown y2
  have c3 := cell_regrown z0
  have c4 := cell_regrown z1
  have c5 := cell_regrown z2
  have k1 := fun d os => (posC s x o (grow (redrawn v d) os) h1 h2 h3 h4).regrown_of
  have k2 := fun d os => (posC t y q (grow (redrawn v d) os) h5 h6 h7 h8).regrown_of
  refine wp_region_quiet_below (by kernel_rfl) (by kernel_rfl) ?_
  repeat (quiet_step ((go_at_call 29; (first | (with_reducible exact k1 _ _) | (with_reducible exact k2 _ _)))))
  refine wpQuiet_nil ?_
  intro _ hw'
  obtain ⟨⟨dq, osq⟩, hw''⟩ := hw'
  subst hw''
  go_wp2_with fail
  go_ret
  exact ⟨ret_int (IntWalk.i64_in _ (by omega)), hB.trans ((below_regrown v dq osq).mono hB.size)⟩
end Go.Proofs.YteoghladllohjaaGreatDoor
