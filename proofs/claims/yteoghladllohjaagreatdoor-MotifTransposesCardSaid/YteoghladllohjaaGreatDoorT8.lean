/- interval.spelled, interval.Transpose. -/
import Derived.Test.YteoghladllohjaaGreatDoorT7
namespace Go.Proofs.YteoghladllohjaaGreatDoor
open Go.RowKit Go.Shelf Go.Sort

def ascB : List Pit → Bool
  | [] => true
  | [_] => true
  | a :: b :: l => decide (posF a < posF b) && ascB (b :: l)
def validB (p : Pit) : Bool := pitchCheckF p.st p.al p.oc == 0
def enhOk (n : Int) : Bool := let l := enhL n; decide (0 < l.length) && decide (l.length ≤ 12) && l.all validB && ascB l
theorem enhOk_all : (List.range 128).all (fun n => enhOk (n : Int)) = true := by kernel_rfl
theorem ascB_nth : ∀ (l : List Pit) (k : Nat), ascB l = true → k + 1 < l.length → posF (nthP l k) < posF (nthP l (k + 1))
  | [], _, _, h => by simp at h
  | [_], _, _, h => by simp at h
  | a :: b :: l, 0, h, _ => by simp only [ascB, Bool.and_eq_true, decide_eq_true_eq] at h; exact h.1
  | a :: b :: l, k + 1, h, hk => by
    simp only [ascB, Bool.and_eq_true, decide_eq_true_eq] at h
    exact ascB_nth (b :: l) k h.2 (by simpa using hk)
theorem enh_facts {n : Int} (h0 : 0 ≤ n) (h1 : n ≤ 127) : 0 < (enhL n).length ∧ (enhL n).length ≤ 12 ∧ (∀ k, k < (enhL n).length → pitchCheckF (nthP (enhL n) k).st (nthP (enhL n) k).al (nthP (enhL n) k).oc = 0) ∧ AscP (enhL n) := by
  have h := List.all_eq_true.1 enhOk_all n.toNat (List.mem_range.2 (by omega))
  rw [show ((n.toNat : Nat) : Int) = n by omega] at h
  simp only [enhOk, Bool.and_eq_true, decide_eq_true_eq] at h
  obtain ⟨⟨⟨a, b⟩, c⟩, d⟩ := h
  have hv : ∀ k, k < (enhL n).length → pitchCheckF (nthP (enhL n) k).st (nthP (enhL n) k).al (nthP (enhL n) k).oc = 0 := fun k hk => by
    have := List.all_eq_true.1 c (nthP (enhL n) k) (by unfold nthP; rw [List.getD_eq_getElem?_getD, List.getElem?_eq_getElem hk]; exact List.getElem_mem hk)
    simpa [validB] using this
  refine ⟨a, b, hv, fun k hk => ascB_nth _ k d hk, fun k hk => ?_⟩
  have := pitchCheckF_in (hv k hk)
  omega

set_option maxHeartbeats 1000000 in
theorem spelledBad (n : Int) (w : World) (h : n < 0 ∨ 127 < n) : Calls Tryz.prog 27 #[.int .i64 n] w fun e w' => e = .returned (.tuple #[.slice none 0 0, .int .i64 18]) ∧ Below w.heap.size w w' := by
  have hb := fun W => enhBad n W h
  clear h
  go_enter Tryz.func27, Tryz.ntmps27
  go_wp2_with fail
  refine (hb _).mono ?_
  rintro e w1 ⟨rfl, hb1⟩
  go_wp2_with fail
  go_ret2
  exact ⟨rfl, hb1⟩
set_option maxHeartbeats 2000000 in
theorem spelledC (n : Int) (w : World) (h0 : 0 ≤ n) (h1 : n ≤ 127) : Calls Tryz.prog 27 #[.int .i64 n] w fun e w' => (∃ g c, e = .returned (.tuple #[.slice (some ⟨g, 0, none⟩) (enhL n).length c, .int .i64 0]) ∧ g < w'.heap.size ∧ RdP w' g 0 (enhL n)) ∧ Below w.heap.size w w' := by
  obtain ⟨e1, e2, e3, e4⟩ := enh_facts h0 h1
  have he := fun W => enhC n W h0 h1
  have hs := fun g c W hg hr => sortC g 0 c (enhL n) W e1 e2 e4 hg hr
  have hx : (((enhL n).length : Int) == 0) = false := by rw [beq_eq_false_iff_ne]; omega
  clear e4 e3
  unfold EnhR at he
  generalize enhL n = l at *
  have hos := fun (W : World) v (ho : OwnP W w.heap.size v l) => ownP_slice ho e1
  unfold OwnP at hos
  generalize hm : l.length = m at *
  have hm := Lib.hid hm
  go_enter Tryz.func27, Tryz.ntmps27
  go_wp2_with fail
  refine (he _).mono ?_
  rintro e w1 ⟨⟨v, rfl, ho⟩, hb1⟩
  obtain ⟨g, cap, rfl, g1, g2, g3⟩ := hos _ _ ho
  have hs1 := hs g cap w1 g2 g3
  clear he hs ho hos
  go_wp2_with fail
  refine hs1.mono ?_
  rintro e w2 ⟨rfl, hb2⟩
  have g3 := Lib.hid (g3.below hb2 g2)
  go_wp2_with fail
  go_ret2
  exact ⟨⟨g, cap, rfl, Nat.lt_of_lt_of_le g2 hb2.size, g3.out⟩, hb1.trans (hb2.mono hb1.size)⟩

/-- What interval.Transpose gives: a pitch, and an error. -/
def trOk (p : Pit) (m : Int) : Prop := 0 ≤ numberF p.st p.al p.oc + m ∧ numberF p.st p.al p.oc + m ≤ 127
instance (p : Pit) (m : Int) : Decidable (trOk p m) := inferInstanceAs (Decidable (_ ∧ _))
def trP (p : Pit) (t m : Int) : Pit := if trOk p m then minF (cmpFar (posF p + t)) (enhL (numberF p.st p.al p.oc + m)) ((enhL (numberF p.st p.al p.oc + m)).length - 1) else pit0
def trE (p : Pit) (m : Int) : Int := if trOk p m then 0 else 18
set_option maxHeartbeats 2000000 in
theorem trBad (s a o t m : Int) (w : World) (h : pitchCheckF s a o = 0) (h1 : -77 ≤ t) (h2 : t ≤ 77) (h3 : -140 ≤ m) (h4 : m ≤ 140) (hn : numberF s a o + m < 0 ∨ 127 < numberF s a o + m) :
    Calls Tryz.prog 14 #[.agg #[.int .i64 s, .int .i64 a, .int .i64 o], .agg #[.int .i64 t, .int .i64 m]] w fun e w' => e = .returned (.tuple #[.agg #[.int .i64 0, .int .i64 0, .int .i64 0], .int .i64 18]) ∧ Below w.heap.size w w' := by
  have hg := fun W => goalC s a o t m W h h1 h2 h3 h4
  have hs := fun W => spelledBad _ W hn
  obtain ⟨b1, b2, b3, b4, b5, b6, b7, b8⟩ := pitchCheckF_in h
  have hB0 : Below w.heap.size w (((w.alloc (.cells #[.int .i64 s, .int .i64 a, .int .i64 o] 26)).alloc (.cells #[.int .i64 t, .int .i64 m] 24)).alloc (.cells #[.int .i64 0, .int .i64 0, .int .i64 0] 26)) := (((Below.refl _ w).alloc (Nat.le_refl _) _).alloc (by simp) _).alloc (by simp; omega) _
  have z0 : (((w.alloc (.cells #[.int .i64 s, .int .i64 a, .int .i64 o] 26)).alloc (.cells #[.int .i64 t, .int .i64 m] 24)).alloc (.cells #[.int .i64 0, .int .i64 0, .int .i64 0] 26)).cell? ⟨w.heap.size + 1 + 1, 0, none⟩ = some (.int .i64 0) := by simp [go_sem]
  have z1 : (((w.alloc (.cells #[.int .i64 s, .int .i64 a, .int .i64 o] 26)).alloc (.cells #[.int .i64 t, .int .i64 m] 24)).alloc (.cells #[.int .i64 0, .int .i64 0, .int .i64 0] 26)).cell? ⟨w.heap.size + 1 + 1, 1, none⟩ = some (.int .i64 0) := by simp [go_sem]
  have z2 : (((w.alloc (.cells #[.int .i64 s, .int .i64 a, .int .i64 o] 26)).alloc (.cells #[.int .i64 t, .int .i64 m] 24)).alloc (.cells #[.int .i64 0, .int .i64 0, .int .i64 0] 26)).cell? ⟨w.heap.size + 1 + 1, 2, none⟩ = some (.int .i64 0) := by simp [go_sem]
  have x0 : (((w.alloc (.cells #[.int .i64 s, .int .i64 a, .int .i64 o] 26)).alloc (.cells #[.int .i64 t, .int .i64 m] 24)).alloc (.cells #[.int .i64 0, .int .i64 0, .int .i64 0] 26)).cell? ⟨w.heap.size, 0, none⟩ = some (.int .i64 s) := by simp [go_sem]
  have x1 : (((w.alloc (.cells #[.int .i64 s, .int .i64 a, .int .i64 o] 26)).alloc (.cells #[.int .i64 t, .int .i64 m] 24)).alloc (.cells #[.int .i64 0, .int .i64 0, .int .i64 0] 26)).cell? ⟨w.heap.size, 1, none⟩ = some (.int .i64 a) := by simp [go_sem]
  have x2 : (((w.alloc (.cells #[.int .i64 s, .int .i64 a, .int .i64 o] 26)).alloc (.cells #[.int .i64 t, .int .i64 m] 24)).alloc (.cells #[.int .i64 0, .int .i64 0, .int .i64 0] 26)).cell? ⟨w.heap.size, 2, none⟩ = some (.int .i64 o) := by simp [go_sem]
  have y0 : (((w.alloc (.cells #[.int .i64 s, .int .i64 a, .int .i64 o] 26)).alloc (.cells #[.int .i64 t, .int .i64 m] 24)).alloc (.cells #[.int .i64 0, .int .i64 0, .int .i64 0] 26)).cell? ⟨w.heap.size + 1, 0, none⟩ = some (.int .i64 t) := by simp [go_sem]
  have y1 : (((w.alloc (.cells #[.int .i64 s, .int .i64 a, .int .i64 o] 26)).alloc (.cells #[.int .i64 t, .int .i64 m] 24)).alloc (.cells #[.int .i64 0, .int .i64 0, .int .i64 0] 26)).cell? ⟨w.heap.size + 1, 1, none⟩ = some (.int .i64 m) := by simp [go_sem]
  have fz : ∀ o', (((w.alloc (.cells #[.int .i64 s, .int .i64 a, .int .i64 o] 26)).alloc (.cells #[.int .i64 t, .int .i64 m] 24)).alloc (.cells #[.int .i64 0, .int .i64 0, .int .i64 0] 26)).frozen? ⟨w.heap.size + 1 + 1, o', none⟩ = false := fun o' => by simp [go_sem]
  have hsz : w.heap.size + 3 ≤ (((w.alloc (.cells #[.int .i64 s, .int .i64 a, .int .i64 o] 26)).alloc (.cells #[.int .i64 t, .int .i64 m] 24)).alloc (.cells #[.int .i64 0, .int .i64 0, .int .i64 0] 26)).heap.size := by simp
  clear hn h
  generalize numberF s a o + m = n at *
  go_enter Tryz.func14, Tryz.ntmps14
  go_upto_region 1 with (fail)
  generalize (((w.alloc (.cells #[.int .i64 s, .int .i64 a, .int .i64 o] 26)).alloc (.cells #[.int .i64 t, .int .i64 m] 24)).alloc (.cells #[.int .i64 0, .int .i64 0, .int .i64 0] 26)) = v at *
  go_wp2_with fail
  refine (hg _).mono ?_
  rintro e w1 ⟨rfl, hb1⟩
  have hz1 := hb1.size
  have B1 := hB0.trans (hb1.mono hB0.size)
  go_wp2_with fail
  refine (hs _).mono ?_
  rintro e w2 ⟨rfl, hb2⟩
  have hV := hb1.trans ((((Below.refl _ w1).alloc (Nat.le_refl _) _).trans (hb2.mono (by simp))).mono hz1)
  have B2 := hB0.trans (hV.mono hB0.size)
  have d0 := (hV.cell (p := ⟨w.heap.size + 1 + 1, 0, none⟩) (by show w.heap.size + 1 + 1 < _; omega)).trans z0
  have d1 := (hV.cell (p := ⟨w.heap.size + 1 + 1, 1, none⟩) (by show w.heap.size + 1 + 1 < _; omega)).trans z1
  have d2 := (hV.cell (p := ⟨w.heap.size + 1 + 1, 2, none⟩) (by show w.heap.size + 1 + 1 < _; omega)).trans z2
  have f0 := fun o' => (hV.frozen (p := ⟨w.heap.size + 1 + 1, o', none⟩) (by show w.heap.size + 1 + 1 < _; omega)).trans (fz o')
  have g0 := f0 0
  have g1 := f0 1
  have g2 := f0 2
  clear f0 hV hb1 hb2
  go_wp2_with fail
  refine bodyPost_ret (v := .tuple #[.agg #[.int .i64 0, .int .i64 0, .int .i64 0], .int .i64 18]) ?_ rfl ⟨rfl, ?_⟩
  · simp [results, Tryz.results14, go_sem, d0, d1, d2]
  · exact ((B2.setCell (p := ⟨w.heap.size + 1 + 1, 0, none⟩) (by show _ ≤ w.heap.size + 1 + 1; omega) _).setCell (p := ⟨w.heap.size + 1 + 1, 1, none⟩) (by show _ ≤ w.heap.size + 1 + 1; omega) _).setCell (p := ⟨w.heap.size + 1 + 1, 2, none⟩) (by show _ ≤ w.heap.size + 1 + 1; omega) _
end Go.Proofs.YteoghladllohjaaGreatDoor
