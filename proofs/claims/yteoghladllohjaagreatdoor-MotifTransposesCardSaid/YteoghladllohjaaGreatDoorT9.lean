/- interval.Transpose at what it can reach. -/
import Derived.Test.YteoghladllohjaaGreatDoorT8
import Derived.Laws.EntriesVeiled
namespace Go.Proofs.YteoghladllohjaaGreatDoor
open Go.RowKit Go.Shelf Go.Sort

set_option maxHeartbeats 4000000 in
theorem trGood (s a o t m : Int) (w : World) (h : pitchCheckF s a o = 0) (h1 : -77 ≤ t) (h2 : t ≤ 77) (h3 : -140 ≤ m) (h4 : m ≤ 140) (hn0 : 0 ≤ numberF s a o + m) (hn1 : numberF s a o + m ≤ 127) :
    Calls Tryz.prog 14 #[.agg #[.int .i64 s, .int .i64 a, .int .i64 o], .agg #[.int .i64 t, .int .i64 m]] w fun e w' => e = .returned (.tuple #[pitV (minF (cmpFar (7 * o + s + t)) (enhL (numberF s a o + m)) ((enhL (numberF s a o + m)).length - 1)), .int .i64 0]) ∧ Below w.heap.size w w' := by
  have hg := fun W => goalC s a o t m W h h1 h2 h3 h4
  have hs := fun W => spelledC _ W hn0 hn1
  obtain ⟨e1, e2, e3, _⟩ := enh_facts hn0 hn1
  obtain ⟨b1, b2, b3, b4, b5, b6, b7, b8⟩ := pitchCheckF_in h
  have hB0 : Below w.heap.size w (((w.alloc (.cells #[.int .i64 s, .int .i64 a, .int .i64 o] 26)).alloc (.cells #[.int .i64 t, .int .i64 m] 24)).alloc (.cells #[.int .i64 0, .int .i64 0, .int .i64 0] 26)) := (((Below.refl _ w).alloc (Nat.le_refl _) _).alloc (by simp) _).alloc (by simp; omega) _
  have z0 : (((w.alloc (.cells #[.int .i64 s, .int .i64 a, .int .i64 o] 26)).alloc (.cells #[.int .i64 t, .int .i64 m] 24)).alloc (.cells #[.int .i64 0, .int .i64 0, .int .i64 0] 26)).cell? ⟨w.heap.size + 1 + 1, 0, none⟩ = some (.int .i64 0) := by simp [go_sem]
  have z1 : (((w.alloc (.cells #[.int .i64 s, .int .i64 a, .int .i64 o] 26)).alloc (.cells #[.int .i64 t, .int .i64 m] 24)).alloc (.cells #[.int .i64 0, .int .i64 0, .int .i64 0] 26)).cell? ⟨w.heap.size + 1 + 1, 1, none⟩ = some (.int .i64 0) := by simp [go_sem]
  have z2 : (((w.alloc (.cells #[.int .i64 s, .int .i64 a, .int .i64 o] 26)).alloc (.cells #[.int .i64 t, .int .i64 m] 24)).alloc (.cells #[.int .i64 0, .int .i64 0, .int .i64 0] 26)).cell? ⟨w.heap.size + 1 + 1, 2, none⟩ = some (.int .i64 0) := by simp [go_sem]
  have x0 : (((w.alloc (.cells #[.int .i64 s, .int .i64 a, .int .i64 o] 26)).alloc (.cells #[.int .i64 t, .int .i64 m] 24)).alloc (.cells #[.int .i64 0, .int .i64 0, .int .i64 0] 26)).cell? ⟨w.heap.size, 0, none⟩ = some (.int .i64 s) := by simp [go_sem]
  have x1 : (((w.alloc (.cells #[.int .i64 s, .int .i64 a, .int .i64 o] 26)).alloc (.cells #[.int .i64 t, .int .i64 m] 24)).alloc (.cells #[.int .i64 0, .int .i64 0, .int .i64 0] 26)).cell? ⟨w.heap.size, 1, none⟩ = some (.int .i64 a) := by simp [go_sem]
  have x2 : (((w.alloc (.cells #[.int .i64 s, .int .i64 a, .int .i64 o] 26)).alloc (.cells #[.int .i64 t, .int .i64 m] 24)).alloc (.cells #[.int .i64 0, .int .i64 0, .int .i64 0] 26)).cell? ⟨w.heap.size, 2, none⟩ = some (.int .i64 o) := by simp [go_sem]
  have y0 : (((w.alloc (.cells #[.int .i64 s, .int .i64 a, .int .i64 o] 26)).alloc (.cells #[.int .i64 t, .int .i64 m] 24)).alloc (.cells #[.int .i64 0, .int .i64 0, .int .i64 0] 26)).cell? ⟨w.heap.size + 1, 0, none⟩ = some (.int .i64 t) := by simp [go_sem]
  have y1 : (((w.alloc (.cells #[.int .i64 s, .int .i64 a, .int .i64 o] 26)).alloc (.cells #[.int .i64 t, .int .i64 m] 24)).alloc (.cells #[.int .i64 0, .int .i64 0, .int .i64 0] 26)).cell? ⟨w.heap.size + 1, 1, none⟩ = some (.int .i64 m) := by simp [go_sem]
  have fz : ∀ o', (((w.alloc (.cells #[.int .i64 s, .int .i64 a, .int .i64 o] 26)).alloc (.cells #[.int .i64 t, .int .i64 m] 24)).alloc (.cells #[.int .i64 0, .int .i64 0, .int .i64 0] 26)).frozen? ⟨w.heap.size + 1 + 1, o', none⟩ = false := fun o' => by simp [go_sem]
  have hsz : w.heap.size + 3 ≤ (((w.alloc (.cells #[.int .i64 s, .int .i64 a, .int .i64 o] 26)).alloc (.cells #[.int .i64 t, .int .i64 m] 24)).alloc (.cells #[.int .i64 0, .int .i64 0, .int .i64 0] 26)).heap.size := by simp
  clear hn0 hn1 h
  generalize numberF s a o + m = n at *
  have hv : ∀ k, k < (enhL n).length → 0 ≤ (nthP (enhL n) k).st ∧ (nthP (enhL n) k).st ≤ 6 ∧ -1 ≤ (nthP (enhL n) k).oc ∧ (nthP (enhL n) k).oc ≤ 9 := fun k hk => by
    have := pitchCheckF_in (e3 k hk); omega
  clear e3
  generalize enhL n = l at *
  have hat1 : -1000 ≤ 7 * o + s + t := by omega
  have hat2 : 7 * o + s + t ≤ 1000 := by omega
  generalize 7 * o + s + t = AT at *
  have hm := fun (W : World) (g c ba bf : Nat) (hg : g < W.heap.size) (hr : RdP W g 0 l) (hba : ba < W.heap.size) (ca : W.cell? ⟨ba, 0, none⟩ = some (.int .i64 AT)) (hbf : bf < W.heap.size) (cf : W.cell? ⟨bf, 0, none⟩ = some (.func (.func 28) #[] #[.pointer (some ⟨ba, 0, none⟩)])) =>
    minC (cmpFar AT) (.pointer (some ⟨bf, 0, none⟩)) g 0 c l W (fun i k W' hi hk hb => cmpFarC (nthP l i) (nthP l k) AT ba bf W' (hv i hi).1 (hv i hi).2.1 (hv i hi).2.2.1 (hv i hi).2.2.2 (hv k hk).1 (hv k hk).2.1 (hv k hk).2.2.1 (hv k hk).2.2.2 hat1 hat2 (Nat.lt_of_lt_of_le hba hb.size) ((hb.cell (p := ⟨ba, 0, none⟩) hba).trans ca) (Nat.lt_of_lt_of_le hbf hb.size) ((hb.cell (p := ⟨bf, 0, none⟩) hbf).trans cf)) (by omega) e1 hg hr
  clear hv
  generalize minF (cmpFar AT) l (l.length - 1) = P at *
  obtain ⟨ps, pa, po⟩ := P
  generalize l.length = ln at *
  go_enter Tryz.func14, Tryz.ntmps14
  go_upto_region 1 with (fail)
  generalize (((w.alloc (.cells #[.int .i64 s, .int .i64 a, .int .i64 o] 26)).alloc (.cells #[.int .i64 t, .int .i64 m] 24)).alloc (.cells #[.int .i64 0, .int .i64 0, .int .i64 0] 26)) = v at *
  go_wp2_with fail
  refine (hg _).mono ?_
  rintro e w1 ⟨rfl, hb1⟩
  have hz1 := hb1.size
  have B1 := hB0.trans (hb1.mono hB0.size)
  go_wp2_with fail
  refine (hs _).mono ?_
  rintro e w2 ⟨⟨g, cap, rfl, g2, g3⟩, hb2⟩
  have hA := ((Below.refl w1.heap.size w1).alloc (Nat.le_refl _) (.cells #[.int .i64 AT] 3)).trans (hb2.mono (by simp))
  have ba : w1.heap.size < w2.heap.size := by have := hb2.size; simp at this; omega
  have ca : w2.cell? ⟨w1.heap.size, 0, none⟩ = some (.int .i64 AT) := (hb2.cell (p := ⟨w1.heap.size, 0, none⟩) (by simp)).trans (by simp [go_sem])
  have hV := hb1.trans (hA.mono hz1)
  clear hs hb2 hb1 hA
  go_wp2_with fail
  have hm1 := hm (w2.alloc (.cells #[.func (.func 28) #[] #[.pointer (some ⟨w1.heap.size, 0, none⟩)]] 58)) g cap w1.heap.size w2.heap.size (by simp; omega) (g3.below ((Below.refl _ w2).alloc (Nat.le_refl _) _) g2) (by simp; omega) ((((Below.refl w2.heap.size w2).alloc (Nat.le_refl _) _).cell (p := ⟨w1.heap.size, 0, none⟩) ba).trans ca) (by simp) (by simp [go_sem])
  refine hm1.mono ?_
  rintro e w3 ⟨rfl, hb3⟩
  have hW := hV.trans ((((Below.refl _ w2).alloc (Nat.le_refl _) _).trans (hb3.mono (by simp))).mono hV.size)
  have B3 := hB0.trans (hW.mono hB0.size)
  have d0 := (hW.cell (p := ⟨w.heap.size + 1 + 1, 0, none⟩) (by show w.heap.size + 1 + 1 < _; omega)).trans z0
  have d1 := (hW.cell (p := ⟨w.heap.size + 1 + 1, 1, none⟩) (by show w.heap.size + 1 + 1 < _; omega)).trans z1
  have d2 := (hW.cell (p := ⟨w.heap.size + 1 + 1, 2, none⟩) (by show w.heap.size + 1 + 1 < _; omega)).trans z2
  have f0 := fun o' => (hW.frozen (p := ⟨w.heap.size + 1 + 1, o', none⟩) (by show w.heap.size + 1 + 1 < _; omega)).trans (fz o')
  have g0 := f0 0
  have g1 := f0 1
  have g2' := f0 2
  clear f0 hW hV hm hm1 hb3 g3 ca
  go_wp2_with fail
  refine bodyPost_ret (v := .tuple #[.agg #[.int .i64 ps, .int .i64 pa, .int .i64 po], .int .i64 0]) ?_ rfl ⟨rfl, ?_⟩
  · simp [results, Tryz.results14, go_sem, d0, d1, d2]
  · exact ((B3.setCell (p := ⟨w.heap.size + 1 + 1, 0, none⟩) (by show _ ≤ w.heap.size + 1 + 1; omega) _).setCell (p := ⟨w.heap.size + 1 + 1, 1, none⟩) (by show _ ≤ w.heap.size + 1 + 1; omega) _).setCell (p := ⟨w.heap.size + 1 + 1, 2, none⟩) (by show _ ≤ w.heap.size + 1 + 1; omega) _

theorem trC (p : Pit) (t m : Int) (w : World) (h : pitchCheckF p.st p.al p.oc = 0) (h1 : -77 ≤ t) (h2 : t ≤ 77) (h3 : -140 ≤ m) (h4 : m ≤ 140) :
    Calls Tryz.prog 14 #[pitV p, .agg #[.int .i64 t, .int .i64 m]] w fun e w' => e = .returned (.tuple #[pitV (trP p t m), .int .i64 (trE p m)]) ∧ Below w.heap.size w w' := by
  by_cases hk : trOk p m
  · have := trGood p.st p.al p.oc t m w h h1 h2 h3 h4 hk.1 hk.2
    unfold trP trE
    rw [if_pos hk, if_pos hk]
    exact this
  · have := trBad p.st p.al p.oc t m w h h1 h2 h3 h4 (by unfold trOk at hk; omega)
    unfold trP trE
    rw [if_neg hk, if_neg hk]
    exact this
/-- Mirrored at an axis. -/
def mirP (ax p : Pit) : Pit := trP ax (posF ax - posF p) (numberF ax.st ax.al ax.oc - numberF p.st p.al p.oc)
def mirE (ax p : Pit) : Int := trE ax (numberF ax.st ax.al ax.oc - numberF p.st p.al p.oc)
end Go.Proofs.YteoghladllohjaaGreatDoor
