/- The closures of the law and of the program (printed by mkT10.py). -/
import Derived.Test.YteoghladllohjaaGreatDoorT9
namespace Go.Proofs.YteoghladllohjaaGreatDoor
open Go.RowKit Go.Shelf Go.Sort

set_option maxHeartbeats 1000000 in
theorem clo20 (p : Pit) (t m : Int) (b : Nat) (w : World) (h : pitchCheckF p.st p.al p.oc = 0) (h1 : -77 ≤ t) (h2 : t ≤ 77) (h3 : -140 ≤ m) (h4 : m ≤ 140) (hb : b < w.heap.size) (c0 : w.cell? ⟨b, 0, none⟩ = some (.int .i64 t)) (c1 : w.cell? ⟨b, 1, none⟩ = some (.int .i64 m)) :
    Calls Tryz.prog 20 #[pitV p, .pointer (some ⟨b, 0, none⟩)] w fun e w' => e = .returned (.tuple #[pitV (trP p t m), .int .i64 (trE p m)]) ∧ Below w.heap.size w w' := by
  have hc := fun W => trC p t m W h h1 h2 h3 h4
  clear h
  generalize trP p t m = q at *
  generalize trE p m = er at *
  obtain ⟨s, a, o⟩ := p
  obtain ⟨qs, qa, qo⟩ := q
  have hB0 : Below w.heap.size w ((w.alloc (.cells #[.int .i64 s, .int .i64 a, .int .i64 o] 26)).alloc (.cells #[.int .i64 0, .int .i64 0, .int .i64 0] 26)) := ((Below.refl _ w).alloc (Nat.le_refl _) _).alloc (by simp) _
  have e0 := (hB0.cell (p := ⟨b, 0, none⟩) hb).trans c0
  have e1 := (hB0.cell (p := ⟨b, 1, none⟩) hb).trans c1
  go_enter Tryz.func20, Tryz.ntmps20
  go_wp2_with fail
  refine (hc _).mono ?_
  rintro e w1 ⟨rfl, hb1⟩
  have d0 := (hb1.cell (p := ⟨w.heap.size + 1, 0, none⟩) (by simp <;> omega)).trans (show ((w.alloc (.cells #[.int .i64 s, .int .i64 a, .int .i64 o] 26)).alloc (.cells #[.int .i64 0, .int .i64 0, .int .i64 0] 26)).cell? ⟨w.heap.size + 1, 0, none⟩ = some (.int .i64 0) by simp [go_sem])
  have df0 := (hb1.frozen (p := ⟨w.heap.size + 1, 0, none⟩) (by simp <;> omega)).trans (show ((w.alloc (.cells #[.int .i64 s, .int .i64 a, .int .i64 o] 26)).alloc (.cells #[.int .i64 0, .int .i64 0, .int .i64 0] 26)).frozen? ⟨w.heap.size + 1, 0, none⟩ = false by simp [go_sem])
  have d1 := (hb1.cell (p := ⟨w.heap.size + 1, 1, none⟩) (by simp <;> omega)).trans (show ((w.alloc (.cells #[.int .i64 s, .int .i64 a, .int .i64 o] 26)).alloc (.cells #[.int .i64 0, .int .i64 0, .int .i64 0] 26)).cell? ⟨w.heap.size + 1, 1, none⟩ = some (.int .i64 0) by simp [go_sem])
  have df1 := (hb1.frozen (p := ⟨w.heap.size + 1, 1, none⟩) (by simp <;> omega)).trans (show ((w.alloc (.cells #[.int .i64 s, .int .i64 a, .int .i64 o] 26)).alloc (.cells #[.int .i64 0, .int .i64 0, .int .i64 0] 26)).frozen? ⟨w.heap.size + 1, 1, none⟩ = false by simp [go_sem])
  have d2 := (hb1.cell (p := ⟨w.heap.size + 1, 2, none⟩) (by simp <;> omega)).trans (show ((w.alloc (.cells #[.int .i64 s, .int .i64 a, .int .i64 o] 26)).alloc (.cells #[.int .i64 0, .int .i64 0, .int .i64 0] 26)).cell? ⟨w.heap.size + 1, 2, none⟩ = some (.int .i64 0) by simp [go_sem])
  have df2 := (hb1.frozen (p := ⟨w.heap.size + 1, 2, none⟩) (by simp <;> omega)).trans (show ((w.alloc (.cells #[.int .i64 s, .int .i64 a, .int .i64 o] 26)).alloc (.cells #[.int .i64 0, .int .i64 0, .int .i64 0] 26)).frozen? ⟨w.heap.size + 1, 2, none⟩ = false by simp [go_sem])
  go_wp2_with fail
  refine bodyPost_ret (v := .tuple #[.agg #[.int .i64 qs, .int .i64 qa, .int .i64 qo], .int .i64 er]) ?_ rfl ⟨rfl, ?_⟩
  · simp [results, Tryz.results20, go_sem, d0, d1, d2]
  · exact ((((hB0.trans (hb1.mono hB0.size)).setCell (p := ⟨w.heap.size + 1, 0, none⟩) (by show w.heap.size ≤ w.heap.size + 1; omega) _).setCell (p := ⟨w.heap.size + 1, 1, none⟩) (by show w.heap.size ≤ w.heap.size + 1; omega) _).setCell (p := ⟨w.heap.size + 1, 2, none⟩) (by show w.heap.size ≤ w.heap.size + 1; omega) _)
set_option maxHeartbeats 1000000 in
theorem clo21 (p ax : Pit) (b : Nat) (w : World) (h : pitchCheckF p.st p.al p.oc = 0) (hx : pitchCheckF ax.st ax.al ax.oc = 0) (hb : b < w.heap.size) (c0 : w.cell? ⟨b, 0, none⟩ = some (.int .i64 ax.st)) (c1 : w.cell? ⟨b, 1, none⟩ = some (.int .i64 ax.al)) (c2 : w.cell? ⟨b, 2, none⟩ = some (.int .i64 ax.oc)) :
    Calls Tryz.prog 21 #[pitV p, .pointer (some ⟨b, 0, none⟩)] w fun e w' => e = .returned (.tuple #[pitV (mirP ax p), .int .i64 (mirE ax p)]) ∧ Below w.heap.size w w' := by
  have hx0 := pitchCheckF_in hx
  have h0 := pitchCheckF_in h
  have hd := fun W => betweenC p.st p.al p.oc ax.st ax.al ax.oc W h hx
  have hc := fun W => trC ax (7 * ax.oc + ax.st - (7 * p.oc + p.st)) (numberF ax.st ax.al ax.oc - numberF p.st p.al p.oc) W hx (by omega) (by omega) (by omega) (by omega)
  show Calls _ _ _ _ fun e w' => e = .returned (.tuple #[pitV (trP ax (7 * ax.oc + ax.st - (7 * p.oc + p.st)) (numberF ax.st ax.al ax.oc - numberF p.st p.al p.oc)), .int .i64 (trE ax (numberF ax.st ax.al ax.oc - numberF p.st p.al p.oc))]) ∧ Below w.heap.size w w'
  clear h hx hx0 h0
  generalize trE ax (numberF ax.st ax.al ax.oc - numberF p.st p.al p.oc) = er at *
  generalize trP ax (7 * ax.oc + ax.st - (7 * p.oc + p.st)) (numberF ax.st ax.al ax.oc - numberF p.st p.al p.oc) = q at *
  generalize numberF ax.st ax.al ax.oc - numberF p.st p.al p.oc = dm at *
  generalize 7 * ax.oc + ax.st - (7 * p.oc + p.st) = dt at *
  obtain ⟨s, a, o⟩ := p
  obtain ⟨s', a', o'⟩ := ax
  obtain ⟨qs, qa, qo⟩ := q
  have hB0 : Below w.heap.size w ((w.alloc (.cells #[.int .i64 s, .int .i64 a, .int .i64 o] 26)).alloc (.cells #[.int .i64 0, .int .i64 0, .int .i64 0] 26)) := ((Below.refl _ w).alloc (Nat.le_refl _) _).alloc (by simp) _
  have e0 := (hB0.cell (p := ⟨b, 0, none⟩) hb).trans c0
  have e1 := (hB0.cell (p := ⟨b, 1, none⟩) hb).trans c1
  have e2 := (hB0.cell (p := ⟨b, 2, none⟩) hb).trans c2
  go_enter Tryz.func21, Tryz.ntmps21
  go_wp2_with fail
  refine (hd _).mono ?_
  rintro e w0 ⟨rfl, hb0⟩
  have hbA := hb0.alloc hb0.size (.cells #[.int .i64 dt, .int .i64 dm] 24)
  have k0 := (hbA.cell (p := ⟨b, 0, none⟩) (by simp <;> omega)).trans e0
  have k1 := (hbA.cell (p := ⟨b, 1, none⟩) (by simp <;> omega)).trans e1
  have k2 := (hbA.cell (p := ⟨b, 2, none⟩) (by simp <;> omega)).trans e2
  go_wp2_with fail
  refine (hc _).mono ?_
  rintro e w1 ⟨rfl, hb2⟩
  have hb1 := hbA.trans (hb2.mono hbA.size)
  have d0 := (hb1.cell (p := ⟨w.heap.size + 1, 0, none⟩) (by simp <;> omega)).trans (show ((w.alloc (.cells #[.int .i64 s, .int .i64 a, .int .i64 o] 26)).alloc (.cells #[.int .i64 0, .int .i64 0, .int .i64 0] 26)).cell? ⟨w.heap.size + 1, 0, none⟩ = some (.int .i64 0) by simp [go_sem])
  have df0 := (hb1.frozen (p := ⟨w.heap.size + 1, 0, none⟩) (by simp <;> omega)).trans (show ((w.alloc (.cells #[.int .i64 s, .int .i64 a, .int .i64 o] 26)).alloc (.cells #[.int .i64 0, .int .i64 0, .int .i64 0] 26)).frozen? ⟨w.heap.size + 1, 0, none⟩ = false by simp [go_sem])
  have d1 := (hb1.cell (p := ⟨w.heap.size + 1, 1, none⟩) (by simp <;> omega)).trans (show ((w.alloc (.cells #[.int .i64 s, .int .i64 a, .int .i64 o] 26)).alloc (.cells #[.int .i64 0, .int .i64 0, .int .i64 0] 26)).cell? ⟨w.heap.size + 1, 1, none⟩ = some (.int .i64 0) by simp [go_sem])
  have df1 := (hb1.frozen (p := ⟨w.heap.size + 1, 1, none⟩) (by simp <;> omega)).trans (show ((w.alloc (.cells #[.int .i64 s, .int .i64 a, .int .i64 o] 26)).alloc (.cells #[.int .i64 0, .int .i64 0, .int .i64 0] 26)).frozen? ⟨w.heap.size + 1, 1, none⟩ = false by simp [go_sem])
  have d2 := (hb1.cell (p := ⟨w.heap.size + 1, 2, none⟩) (by simp <;> omega)).trans (show ((w.alloc (.cells #[.int .i64 s, .int .i64 a, .int .i64 o] 26)).alloc (.cells #[.int .i64 0, .int .i64 0, .int .i64 0] 26)).cell? ⟨w.heap.size + 1, 2, none⟩ = some (.int .i64 0) by simp [go_sem])
  have df2 := (hb1.frozen (p := ⟨w.heap.size + 1, 2, none⟩) (by simp <;> omega)).trans (show ((w.alloc (.cells #[.int .i64 s, .int .i64 a, .int .i64 o] 26)).alloc (.cells #[.int .i64 0, .int .i64 0, .int .i64 0] 26)).frozen? ⟨w.heap.size + 1, 2, none⟩ = false by simp [go_sem])
  go_wp2_with fail
  refine bodyPost_ret (v := .tuple #[.agg #[.int .i64 qs, .int .i64 qa, .int .i64 qo], .int .i64 er]) ?_ rfl ⟨rfl, ?_⟩
  · simp [results, Tryz.results21, go_sem, d0, d1, d2]
  · exact ((((hB0.trans (hb1.mono hB0.size)).setCell (p := ⟨w.heap.size + 1, 0, none⟩) (by show w.heap.size ≤ w.heap.size + 1; omega) _).setCell (p := ⟨w.heap.size + 1, 1, none⟩) (by show w.heap.size ≤ w.heap.size + 1; omega) _).setCell (p := ⟨w.heap.size + 1, 2, none⟩) (by show w.heap.size ≤ w.heap.size + 1; omega) _)
set_option maxHeartbeats 1000000 in
theorem clo13 (x : Tone) (t m : Int) (b : Nat) (w : World) (h : x.rest = false → pitchCheckF x.p.st x.p.al x.p.oc = 0) (h1 : -77 ≤ t) (h2 : t ≤ 77) (h3 : -140 ≤ m) (h4 : m ≤ 140) (hb : b < w.heap.size) (c0 : w.cell? ⟨b, 0, none⟩ = some (.int .i64 t)) (c1 : w.cell? ⟨b, 1, none⟩ = some (.int .i64 m)) :
    Calls Tryz.prog 13 #[toneV x, .pointer (some ⟨b, 0, none⟩)] w fun e w' => e = .returned (.tuple #[toneV (if x.rest = true then x else ⟨x.len, trP x.p t m, false⟩), .int .i64 (if x.rest = true then 0 else trE x.p m)]) ∧ Below w.heap.size w w' := by
  obtain ⟨len, p, rest⟩ := x
  cases rest with
  | true =>
    obtain ⟨s, a, o⟩ := p
    simp only [if_true]
    clear h
    go_enter Tryz.func13, Tryz.ntmps13
    go_wp2_with fail
    refine bodyPost_ret (v := .tuple #[.agg #[.int .i64 len, .int .i64 s, .int .i64 a, .int .i64 o, .bool true], .int .i64 0]) ?_ rfl ⟨rfl, by go_grown⟩
    simp [results, Tryz.results13, go_sem]
  | false =>
    have hc := fun W => trC p t m W (h rfl) h1 h2 h3 h4
    simp only [Bool.false_eq_true, if_false]
    clear h
    generalize trP p t m = q at *
    generalize trE p m = er at *
    obtain ⟨s, a, o⟩ := p
    obtain ⟨qs, qa, qo⟩ := q
    have hB0 : Below w.heap.size w ((w.alloc (.cells #[.int .i64 len, .int .i64 s, .int .i64 a, .int .i64 o, .bool false] 35)).alloc (.cells #[.int .i64 0, .int .i64 0, .int .i64 0, .int .i64 0, .bool false] 35)) := ((Below.refl _ w).alloc (Nat.le_refl _) _).alloc (by simp) _
    have e0 := (hB0.cell (p := ⟨b, 0, none⟩) hb).trans c0
    have e1 := (hB0.cell (p := ⟨b, 1, none⟩) hb).trans c1
    go_enter Tryz.func13, Tryz.ntmps13
    go_wp2_with fail
    refine (hc _).mono ?_
    rintro e w1 ⟨rfl, hb1⟩
    have hbP := hb1.alloc hb1.size (.cells #[.int .i64 qs, .int .i64 qa, .int .i64 qo] 26)
    have d0 := (hbP.cell (p := ⟨w.heap.size, 0, none⟩) (by simp <;> omega)).trans (show ((w.alloc (.cells #[.int .i64 len, .int .i64 s, .int .i64 a, .int .i64 o, .bool false] 35)).alloc (.cells #[.int .i64 0, .int .i64 0, .int .i64 0, .int .i64 0, .bool false] 35)).cell? ⟨w.heap.size, 0, none⟩ = some (.int .i64 len) by simp [go_sem])
    have df0 := (hbP.frozen (p := ⟨w.heap.size, 0, none⟩) (by simp <;> omega)).trans (show ((w.alloc (.cells #[.int .i64 len, .int .i64 s, .int .i64 a, .int .i64 o, .bool false] 35)).alloc (.cells #[.int .i64 0, .int .i64 0, .int .i64 0, .int .i64 0, .bool false] 35)).frozen? ⟨w.heap.size, 0, none⟩ = false by simp [go_sem])
    have d1 := (hbP.cell (p := ⟨w.heap.size, 1, none⟩) (by simp <;> omega)).trans (show ((w.alloc (.cells #[.int .i64 len, .int .i64 s, .int .i64 a, .int .i64 o, .bool false] 35)).alloc (.cells #[.int .i64 0, .int .i64 0, .int .i64 0, .int .i64 0, .bool false] 35)).cell? ⟨w.heap.size, 1, none⟩ = some (.int .i64 s) by simp [go_sem])
    have df1 := (hbP.frozen (p := ⟨w.heap.size, 1, none⟩) (by simp <;> omega)).trans (show ((w.alloc (.cells #[.int .i64 len, .int .i64 s, .int .i64 a, .int .i64 o, .bool false] 35)).alloc (.cells #[.int .i64 0, .int .i64 0, .int .i64 0, .int .i64 0, .bool false] 35)).frozen? ⟨w.heap.size, 1, none⟩ = false by simp [go_sem])
    have d2 := (hbP.cell (p := ⟨w.heap.size, 2, none⟩) (by simp <;> omega)).trans (show ((w.alloc (.cells #[.int .i64 len, .int .i64 s, .int .i64 a, .int .i64 o, .bool false] 35)).alloc (.cells #[.int .i64 0, .int .i64 0, .int .i64 0, .int .i64 0, .bool false] 35)).cell? ⟨w.heap.size, 2, none⟩ = some (.int .i64 a) by simp [go_sem])
    have df2 := (hbP.frozen (p := ⟨w.heap.size, 2, none⟩) (by simp <;> omega)).trans (show ((w.alloc (.cells #[.int .i64 len, .int .i64 s, .int .i64 a, .int .i64 o, .bool false] 35)).alloc (.cells #[.int .i64 0, .int .i64 0, .int .i64 0, .int .i64 0, .bool false] 35)).frozen? ⟨w.heap.size, 2, none⟩ = false by simp [go_sem])
    have d3 := (hbP.cell (p := ⟨w.heap.size, 3, none⟩) (by simp <;> omega)).trans (show ((w.alloc (.cells #[.int .i64 len, .int .i64 s, .int .i64 a, .int .i64 o, .bool false] 35)).alloc (.cells #[.int .i64 0, .int .i64 0, .int .i64 0, .int .i64 0, .bool false] 35)).cell? ⟨w.heap.size, 3, none⟩ = some (.int .i64 o) by simp [go_sem])
    have df3 := (hbP.frozen (p := ⟨w.heap.size, 3, none⟩) (by simp <;> omega)).trans (show ((w.alloc (.cells #[.int .i64 len, .int .i64 s, .int .i64 a, .int .i64 o, .bool false] 35)).alloc (.cells #[.int .i64 0, .int .i64 0, .int .i64 0, .int .i64 0, .bool false] 35)).frozen? ⟨w.heap.size, 3, none⟩ = false by simp [go_sem])
    have d4 := (hbP.cell (p := ⟨w.heap.size, 4, none⟩) (by simp <;> omega)).trans (show ((w.alloc (.cells #[.int .i64 len, .int .i64 s, .int .i64 a, .int .i64 o, .bool false] 35)).alloc (.cells #[.int .i64 0, .int .i64 0, .int .i64 0, .int .i64 0, .bool false] 35)).cell? ⟨w.heap.size, 4, none⟩ = some (.bool false) by simp [go_sem])
    have df4 := (hbP.frozen (p := ⟨w.heap.size, 4, none⟩) (by simp <;> omega)).trans (show ((w.alloc (.cells #[.int .i64 len, .int .i64 s, .int .i64 a, .int .i64 o, .bool false] 35)).alloc (.cells #[.int .i64 0, .int .i64 0, .int .i64 0, .int .i64 0, .bool false] 35)).frozen? ⟨w.heap.size, 4, none⟩ = false by simp [go_sem])
    have r0 := (hbP.cell (p := ⟨w.heap.size + 1, 0, none⟩) (by simp <;> omega)).trans (show ((w.alloc (.cells #[.int .i64 len, .int .i64 s, .int .i64 a, .int .i64 o, .bool false] 35)).alloc (.cells #[.int .i64 0, .int .i64 0, .int .i64 0, .int .i64 0, .bool false] 35)).cell? ⟨w.heap.size + 1, 0, none⟩ = some (.int .i64 0) by simp [go_sem])
    have rf0 := (hbP.frozen (p := ⟨w.heap.size + 1, 0, none⟩) (by simp <;> omega)).trans (show ((w.alloc (.cells #[.int .i64 len, .int .i64 s, .int .i64 a, .int .i64 o, .bool false] 35)).alloc (.cells #[.int .i64 0, .int .i64 0, .int .i64 0, .int .i64 0, .bool false] 35)).frozen? ⟨w.heap.size + 1, 0, none⟩ = false by simp [go_sem])
    have r1 := (hbP.cell (p := ⟨w.heap.size + 1, 1, none⟩) (by simp <;> omega)).trans (show ((w.alloc (.cells #[.int .i64 len, .int .i64 s, .int .i64 a, .int .i64 o, .bool false] 35)).alloc (.cells #[.int .i64 0, .int .i64 0, .int .i64 0, .int .i64 0, .bool false] 35)).cell? ⟨w.heap.size + 1, 1, none⟩ = some (.int .i64 0) by simp [go_sem])
    have rf1 := (hbP.frozen (p := ⟨w.heap.size + 1, 1, none⟩) (by simp <;> omega)).trans (show ((w.alloc (.cells #[.int .i64 len, .int .i64 s, .int .i64 a, .int .i64 o, .bool false] 35)).alloc (.cells #[.int .i64 0, .int .i64 0, .int .i64 0, .int .i64 0, .bool false] 35)).frozen? ⟨w.heap.size + 1, 1, none⟩ = false by simp [go_sem])
    have r2 := (hbP.cell (p := ⟨w.heap.size + 1, 2, none⟩) (by simp <;> omega)).trans (show ((w.alloc (.cells #[.int .i64 len, .int .i64 s, .int .i64 a, .int .i64 o, .bool false] 35)).alloc (.cells #[.int .i64 0, .int .i64 0, .int .i64 0, .int .i64 0, .bool false] 35)).cell? ⟨w.heap.size + 1, 2, none⟩ = some (.int .i64 0) by simp [go_sem])
    have rf2 := (hbP.frozen (p := ⟨w.heap.size + 1, 2, none⟩) (by simp <;> omega)).trans (show ((w.alloc (.cells #[.int .i64 len, .int .i64 s, .int .i64 a, .int .i64 o, .bool false] 35)).alloc (.cells #[.int .i64 0, .int .i64 0, .int .i64 0, .int .i64 0, .bool false] 35)).frozen? ⟨w.heap.size + 1, 2, none⟩ = false by simp [go_sem])
    have r3 := (hbP.cell (p := ⟨w.heap.size + 1, 3, none⟩) (by simp <;> omega)).trans (show ((w.alloc (.cells #[.int .i64 len, .int .i64 s, .int .i64 a, .int .i64 o, .bool false] 35)).alloc (.cells #[.int .i64 0, .int .i64 0, .int .i64 0, .int .i64 0, .bool false] 35)).cell? ⟨w.heap.size + 1, 3, none⟩ = some (.int .i64 0) by simp [go_sem])
    have rf3 := (hbP.frozen (p := ⟨w.heap.size + 1, 3, none⟩) (by simp <;> omega)).trans (show ((w.alloc (.cells #[.int .i64 len, .int .i64 s, .int .i64 a, .int .i64 o, .bool false] 35)).alloc (.cells #[.int .i64 0, .int .i64 0, .int .i64 0, .int .i64 0, .bool false] 35)).frozen? ⟨w.heap.size + 1, 3, none⟩ = false by simp [go_sem])
    have r4 := (hbP.cell (p := ⟨w.heap.size + 1, 4, none⟩) (by simp <;> omega)).trans (show ((w.alloc (.cells #[.int .i64 len, .int .i64 s, .int .i64 a, .int .i64 o, .bool false] 35)).alloc (.cells #[.int .i64 0, .int .i64 0, .int .i64 0, .int .i64 0, .bool false] 35)).cell? ⟨w.heap.size + 1, 4, none⟩ = some (.bool false) by simp [go_sem])
    have rf4 := (hbP.frozen (p := ⟨w.heap.size + 1, 4, none⟩) (by simp <;> omega)).trans (show ((w.alloc (.cells #[.int .i64 len, .int .i64 s, .int .i64 a, .int .i64 o, .bool false] 35)).alloc (.cells #[.int .i64 0, .int .i64 0, .int .i64 0, .int .i64 0, .bool false] 35)).frozen? ⟨w.heap.size + 1, 4, none⟩ = false by simp [go_sem])
    go_wp2_with fail
    refine bodyPost_ret (v := .tuple #[.agg #[.int .i64 len, .int .i64 qs, .int .i64 qa, .int .i64 qo, .bool false], .int .i64 er]) ?_ rfl ⟨rfl, ?_⟩
    · simp [results, Tryz.results13, go_sem, d0, d1, d2, d3, d4, r0, r1, r2, r3, r4]
    · exact (((((((((hB0.trans (hbP.mono hB0.size)).setCell (p := ⟨w.heap.size, 1, none⟩) (by show w.heap.size ≤ w.heap.size; omega) _).setCell (p := ⟨w.heap.size, 2, none⟩) (by show w.heap.size ≤ w.heap.size; omega) _).setCell (p := ⟨w.heap.size, 3, none⟩) (by show w.heap.size ≤ w.heap.size; omega) _).setCell (p := ⟨w.heap.size + 1, 0, none⟩) (by show w.heap.size ≤ w.heap.size + 1; omega) _).setCell (p := ⟨w.heap.size + 1, 1, none⟩) (by show w.heap.size ≤ w.heap.size + 1; omega) _).setCell (p := ⟨w.heap.size + 1, 2, none⟩) (by show w.heap.size ≤ w.heap.size + 1; omega) _).setCell (p := ⟨w.heap.size + 1, 3, none⟩) (by show w.heap.size ≤ w.heap.size + 1; omega) _).setCell (p := ⟨w.heap.size + 1, 4, none⟩) (by show w.heap.size ≤ w.heap.size + 1; omega) _)
set_option maxHeartbeats 1000000 in
theorem clo16 (x : Tone) (ax : Pit) (b : Nat) (w : World) (h : x.rest = false → pitchCheckF x.p.st x.p.al x.p.oc = 0) (hx : pitchCheckF ax.st ax.al ax.oc = 0) (hb : b < w.heap.size) (c0 : w.cell? ⟨b, 0, none⟩ = some (.int .i64 ax.st)) (c1 : w.cell? ⟨b, 1, none⟩ = some (.int .i64 ax.al)) (c2 : w.cell? ⟨b, 2, none⟩ = some (.int .i64 ax.oc)) :
    Calls Tryz.prog 16 #[toneV x, .pointer (some ⟨b, 0, none⟩)] w fun e w' => e = .returned (.tuple #[toneV (if x.rest = true then x else ⟨x.len, mirP ax x.p, false⟩), .int .i64 (if x.rest = true then 0 else mirE ax x.p)]) ∧ Below w.heap.size w w' := by
  obtain ⟨len, p, rest⟩ := x
  cases rest with
  | true =>
    obtain ⟨s, a, o⟩ := p
    simp only [if_true]
    clear h
    go_enter Tryz.func16, Tryz.ntmps16
    go_wp2_with fail
    refine bodyPost_ret (v := .tuple #[.agg #[.int .i64 len, .int .i64 s, .int .i64 a, .int .i64 o, .bool true], .int .i64 0]) ?_ rfl ⟨rfl, by go_grown⟩
    simp [results, Tryz.results16, go_sem]
  | false =>
    have h := h rfl
    simp only at h
    have hx0 := pitchCheckF_in hx
    have h0 := pitchCheckF_in h
    have hd := fun W => betweenC p.st p.al p.oc ax.st ax.al ax.oc W h hx
    have hc := fun W => trC ax (7 * ax.oc + ax.st - (7 * p.oc + p.st)) (numberF ax.st ax.al ax.oc - numberF p.st p.al p.oc) W hx (by omega) (by omega) (by omega) (by omega)
    simp only [Bool.false_eq_true, if_false]
    show Calls _ _ _ _ fun e w' => e = .returned (.tuple #[toneV ⟨len, trP ax (7 * ax.oc + ax.st - (7 * p.oc + p.st)) (numberF ax.st ax.al ax.oc - numberF p.st p.al p.oc), false⟩, .int .i64 (trE ax (numberF ax.st ax.al ax.oc - numberF p.st p.al p.oc))]) ∧ Below w.heap.size w w'
    clear h hx hx0 h0
    generalize trE ax (numberF ax.st ax.al ax.oc - numberF p.st p.al p.oc) = er at *
    generalize trP ax (7 * ax.oc + ax.st - (7 * p.oc + p.st)) (numberF ax.st ax.al ax.oc - numberF p.st p.al p.oc) = q at *
    generalize numberF ax.st ax.al ax.oc - numberF p.st p.al p.oc = dm at *
    generalize 7 * ax.oc + ax.st - (7 * p.oc + p.st) = dt at *
    obtain ⟨s, a, o⟩ := p
    obtain ⟨s', a', o'⟩ := ax
    obtain ⟨qs, qa, qo⟩ := q
    have hB0 : Below w.heap.size w ((w.alloc (.cells #[.int .i64 len, .int .i64 s, .int .i64 a, .int .i64 o, .bool false] 35)).alloc (.cells #[.int .i64 0, .int .i64 0, .int .i64 0, .int .i64 0, .bool false] 35)) := ((Below.refl _ w).alloc (Nat.le_refl _) _).alloc (by simp) _
    have e0 := (hB0.cell (p := ⟨b, 0, none⟩) hb).trans c0
    have e1 := (hB0.cell (p := ⟨b, 1, none⟩) hb).trans c1
    have e2 := (hB0.cell (p := ⟨b, 2, none⟩) hb).trans c2
    go_enter Tryz.func16, Tryz.ntmps16
    go_wp2_with fail
    refine (hd _).mono ?_
    rintro e w0 ⟨rfl, hb0⟩
    have hbA := hb0.alloc hb0.size (.cells #[.int .i64 dt, .int .i64 dm] 24)
    have k0 := (hbA.cell (p := ⟨b, 0, none⟩) (by simp <;> omega)).trans e0
    have k1 := (hbA.cell (p := ⟨b, 1, none⟩) (by simp <;> omega)).trans e1
    have k2 := (hbA.cell (p := ⟨b, 2, none⟩) (by simp <;> omega)).trans e2
    go_wp2_with fail
    refine (hc _).mono ?_
    rintro e w1 ⟨rfl, hb2⟩
    have hb1 := hbA.trans (hb2.mono hbA.size)
    have hbP := hb1.alloc hb1.size (.cells #[.int .i64 qs, .int .i64 qa, .int .i64 qo] 26)
    have d0 := (hbP.cell (p := ⟨w.heap.size, 0, none⟩) (by simp <;> omega)).trans (show ((w.alloc (.cells #[.int .i64 len, .int .i64 s, .int .i64 a, .int .i64 o, .bool false] 35)).alloc (.cells #[.int .i64 0, .int .i64 0, .int .i64 0, .int .i64 0, .bool false] 35)).cell? ⟨w.heap.size, 0, none⟩ = some (.int .i64 len) by simp [go_sem])
    have df0 := (hbP.frozen (p := ⟨w.heap.size, 0, none⟩) (by simp <;> omega)).trans (show ((w.alloc (.cells #[.int .i64 len, .int .i64 s, .int .i64 a, .int .i64 o, .bool false] 35)).alloc (.cells #[.int .i64 0, .int .i64 0, .int .i64 0, .int .i64 0, .bool false] 35)).frozen? ⟨w.heap.size, 0, none⟩ = false by simp [go_sem])
    have d1 := (hbP.cell (p := ⟨w.heap.size, 1, none⟩) (by simp <;> omega)).trans (show ((w.alloc (.cells #[.int .i64 len, .int .i64 s, .int .i64 a, .int .i64 o, .bool false] 35)).alloc (.cells #[.int .i64 0, .int .i64 0, .int .i64 0, .int .i64 0, .bool false] 35)).cell? ⟨w.heap.size, 1, none⟩ = some (.int .i64 s) by simp [go_sem])
    have df1 := (hbP.frozen (p := ⟨w.heap.size, 1, none⟩) (by simp <;> omega)).trans (show ((w.alloc (.cells #[.int .i64 len, .int .i64 s, .int .i64 a, .int .i64 o, .bool false] 35)).alloc (.cells #[.int .i64 0, .int .i64 0, .int .i64 0, .int .i64 0, .bool false] 35)).frozen? ⟨w.heap.size, 1, none⟩ = false by simp [go_sem])
    have d2 := (hbP.cell (p := ⟨w.heap.size, 2, none⟩) (by simp <;> omega)).trans (show ((w.alloc (.cells #[.int .i64 len, .int .i64 s, .int .i64 a, .int .i64 o, .bool false] 35)).alloc (.cells #[.int .i64 0, .int .i64 0, .int .i64 0, .int .i64 0, .bool false] 35)).cell? ⟨w.heap.size, 2, none⟩ = some (.int .i64 a) by simp [go_sem])
    have df2 := (hbP.frozen (p := ⟨w.heap.size, 2, none⟩) (by simp <;> omega)).trans (show ((w.alloc (.cells #[.int .i64 len, .int .i64 s, .int .i64 a, .int .i64 o, .bool false] 35)).alloc (.cells #[.int .i64 0, .int .i64 0, .int .i64 0, .int .i64 0, .bool false] 35)).frozen? ⟨w.heap.size, 2, none⟩ = false by simp [go_sem])
    have d3 := (hbP.cell (p := ⟨w.heap.size, 3, none⟩) (by simp <;> omega)).trans (show ((w.alloc (.cells #[.int .i64 len, .int .i64 s, .int .i64 a, .int .i64 o, .bool false] 35)).alloc (.cells #[.int .i64 0, .int .i64 0, .int .i64 0, .int .i64 0, .bool false] 35)).cell? ⟨w.heap.size, 3, none⟩ = some (.int .i64 o) by simp [go_sem])
    have df3 := (hbP.frozen (p := ⟨w.heap.size, 3, none⟩) (by simp <;> omega)).trans (show ((w.alloc (.cells #[.int .i64 len, .int .i64 s, .int .i64 a, .int .i64 o, .bool false] 35)).alloc (.cells #[.int .i64 0, .int .i64 0, .int .i64 0, .int .i64 0, .bool false] 35)).frozen? ⟨w.heap.size, 3, none⟩ = false by simp [go_sem])
    have d4 := (hbP.cell (p := ⟨w.heap.size, 4, none⟩) (by simp <;> omega)).trans (show ((w.alloc (.cells #[.int .i64 len, .int .i64 s, .int .i64 a, .int .i64 o, .bool false] 35)).alloc (.cells #[.int .i64 0, .int .i64 0, .int .i64 0, .int .i64 0, .bool false] 35)).cell? ⟨w.heap.size, 4, none⟩ = some (.bool false) by simp [go_sem])
    have df4 := (hbP.frozen (p := ⟨w.heap.size, 4, none⟩) (by simp <;> omega)).trans (show ((w.alloc (.cells #[.int .i64 len, .int .i64 s, .int .i64 a, .int .i64 o, .bool false] 35)).alloc (.cells #[.int .i64 0, .int .i64 0, .int .i64 0, .int .i64 0, .bool false] 35)).frozen? ⟨w.heap.size, 4, none⟩ = false by simp [go_sem])
    have r0 := (hbP.cell (p := ⟨w.heap.size + 1, 0, none⟩) (by simp <;> omega)).trans (show ((w.alloc (.cells #[.int .i64 len, .int .i64 s, .int .i64 a, .int .i64 o, .bool false] 35)).alloc (.cells #[.int .i64 0, .int .i64 0, .int .i64 0, .int .i64 0, .bool false] 35)).cell? ⟨w.heap.size + 1, 0, none⟩ = some (.int .i64 0) by simp [go_sem])
    have rf0 := (hbP.frozen (p := ⟨w.heap.size + 1, 0, none⟩) (by simp <;> omega)).trans (show ((w.alloc (.cells #[.int .i64 len, .int .i64 s, .int .i64 a, .int .i64 o, .bool false] 35)).alloc (.cells #[.int .i64 0, .int .i64 0, .int .i64 0, .int .i64 0, .bool false] 35)).frozen? ⟨w.heap.size + 1, 0, none⟩ = false by simp [go_sem])
    have r1 := (hbP.cell (p := ⟨w.heap.size + 1, 1, none⟩) (by simp <;> omega)).trans (show ((w.alloc (.cells #[.int .i64 len, .int .i64 s, .int .i64 a, .int .i64 o, .bool false] 35)).alloc (.cells #[.int .i64 0, .int .i64 0, .int .i64 0, .int .i64 0, .bool false] 35)).cell? ⟨w.heap.size + 1, 1, none⟩ = some (.int .i64 0) by simp [go_sem])
    have rf1 := (hbP.frozen (p := ⟨w.heap.size + 1, 1, none⟩) (by simp <;> omega)).trans (show ((w.alloc (.cells #[.int .i64 len, .int .i64 s, .int .i64 a, .int .i64 o, .bool false] 35)).alloc (.cells #[.int .i64 0, .int .i64 0, .int .i64 0, .int .i64 0, .bool false] 35)).frozen? ⟨w.heap.size + 1, 1, none⟩ = false by simp [go_sem])
    have r2 := (hbP.cell (p := ⟨w.heap.size + 1, 2, none⟩) (by simp <;> omega)).trans (show ((w.alloc (.cells #[.int .i64 len, .int .i64 s, .int .i64 a, .int .i64 o, .bool false] 35)).alloc (.cells #[.int .i64 0, .int .i64 0, .int .i64 0, .int .i64 0, .bool false] 35)).cell? ⟨w.heap.size + 1, 2, none⟩ = some (.int .i64 0) by simp [go_sem])
    have rf2 := (hbP.frozen (p := ⟨w.heap.size + 1, 2, none⟩) (by simp <;> omega)).trans (show ((w.alloc (.cells #[.int .i64 len, .int .i64 s, .int .i64 a, .int .i64 o, .bool false] 35)).alloc (.cells #[.int .i64 0, .int .i64 0, .int .i64 0, .int .i64 0, .bool false] 35)).frozen? ⟨w.heap.size + 1, 2, none⟩ = false by simp [go_sem])
    have r3 := (hbP.cell (p := ⟨w.heap.size + 1, 3, none⟩) (by simp <;> omega)).trans (show ((w.alloc (.cells #[.int .i64 len, .int .i64 s, .int .i64 a, .int .i64 o, .bool false] 35)).alloc (.cells #[.int .i64 0, .int .i64 0, .int .i64 0, .int .i64 0, .bool false] 35)).cell? ⟨w.heap.size + 1, 3, none⟩ = some (.int .i64 0) by simp [go_sem])
    have rf3 := (hbP.frozen (p := ⟨w.heap.size + 1, 3, none⟩) (by simp <;> omega)).trans (show ((w.alloc (.cells #[.int .i64 len, .int .i64 s, .int .i64 a, .int .i64 o, .bool false] 35)).alloc (.cells #[.int .i64 0, .int .i64 0, .int .i64 0, .int .i64 0, .bool false] 35)).frozen? ⟨w.heap.size + 1, 3, none⟩ = false by simp [go_sem])
    have r4 := (hbP.cell (p := ⟨w.heap.size + 1, 4, none⟩) (by simp <;> omega)).trans (show ((w.alloc (.cells #[.int .i64 len, .int .i64 s, .int .i64 a, .int .i64 o, .bool false] 35)).alloc (.cells #[.int .i64 0, .int .i64 0, .int .i64 0, .int .i64 0, .bool false] 35)).cell? ⟨w.heap.size + 1, 4, none⟩ = some (.bool false) by simp [go_sem])
    have rf4 := (hbP.frozen (p := ⟨w.heap.size + 1, 4, none⟩) (by simp <;> omega)).trans (show ((w.alloc (.cells #[.int .i64 len, .int .i64 s, .int .i64 a, .int .i64 o, .bool false] 35)).alloc (.cells #[.int .i64 0, .int .i64 0, .int .i64 0, .int .i64 0, .bool false] 35)).frozen? ⟨w.heap.size + 1, 4, none⟩ = false by simp [go_sem])
    go_wp2_with fail
    refine bodyPost_ret (v := .tuple #[.agg #[.int .i64 len, .int .i64 qs, .int .i64 qa, .int .i64 qo, .bool false], .int .i64 er]) ?_ rfl ⟨rfl, ?_⟩
    · simp [results, Tryz.results16, go_sem, d0, d1, d2, d3, d4, r0, r1, r2, r3, r4]
    · exact (((((((((hB0.trans (hbP.mono hB0.size)).setCell (p := ⟨w.heap.size, 1, none⟩) (by show w.heap.size ≤ w.heap.size; omega) _).setCell (p := ⟨w.heap.size, 2, none⟩) (by show w.heap.size ≤ w.heap.size; omega) _).setCell (p := ⟨w.heap.size, 3, none⟩) (by show w.heap.size ≤ w.heap.size; omega) _).setCell (p := ⟨w.heap.size + 1, 0, none⟩) (by show w.heap.size ≤ w.heap.size + 1; omega) _).setCell (p := ⟨w.heap.size + 1, 1, none⟩) (by show w.heap.size ≤ w.heap.size + 1; omega) _).setCell (p := ⟨w.heap.size + 1, 2, none⟩) (by show w.heap.size ≤ w.heap.size + 1; omega) _).setCell (p := ⟨w.heap.size + 1, 3, none⟩) (by show w.heap.size ≤ w.heap.size + 1; omega) _).setCell (p := ⟨w.heap.size + 1, 4, none⟩) (by show w.heap.size ≤ w.heap.size + 1; omega) _)
end Go.Proofs.YteoghladllohjaaGreatDoor

