/- motif.Transpose, motif.Invert (printed by mkT15.py). -/
import Derived.Test.YteoghladllohjaaGreatDoorT14
namespace Go.Proofs.YteoghladllohjaaGreatDoor
open Go.RowKit Go.Shelf Go.Sort

/-- How Transpose and Invert end. -/
def TopEnd (bad : Int) (gp : Pit → Pit) (ge : Pit → Int) (l : List Tone) (ok : Prop) (r : Ending) (w' : World) : Prop :=
  (checkL l ≠ 0 → r = .returned (.tuple #[.slice none 0 0, .int .i64 (checkL l)])) ∧ (checkL l = 0 → ¬ ok → r = .returned (.tuple #[.slice none 0 0, .int .i64 bad])) ∧ (checkL l = 0 → ok → ChEnd gp ge l r w')
theorem ChEnd.form {gp : Pit → Pit} {ge : Pit → Int} {l : List Tone} {r : Ending} {w' : World} (h : ChEnd gp ge l r w') : ∃ v e, r = .returned (.tuple #[v, .int .i64 e]) := by
  by_cases h0 : chErr ge l = 0
  · obtain ⟨A, c, h1, _⟩ := h.1 h0; exact ⟨_, _, h1⟩
  · exact ⟨_, _, h.2 h0⟩
def ivOk (t m : Int) : Prop := -77 ≤ t ∧ t ≤ 77 ∧ -140 ≤ m ∧ m ≤ 140
theorem trE_or (p : Pit) (m : Int) : trE p m = 0 ∨ trE p m = 18 := by unfold trE; split <;> simp
theorem mirE_or (ax p : Pit) : mirE ax p = 0 ∨ mirE ax p = 18 := trE_or _ _


set_option maxHeartbeats 4000000 in
theorem transC (A : Option Addr) (c : Nat) (l : List Tone) (t m : Int) (w : World) (hl : l.length ≤ 1000) (h : SlT w A l) :
    Calls Tryz.prog 5 #[.slice A l.length c, .agg #[.int .i64 t, .int .i64 m]] w fun r w' => TopEnd 2 (fun p => trP p t m) (fun p => trE p m) l (ivOk t m) r w' ∧ Below w.heap.size w w' := by
  have eg : ∀ args w, (callFunc 20 args).run Tryz.prog w = .ok (.enter 20 args) w := fun args w => by first | simp [go_sem] | rfl
  have hB0 : Below w.heap.size w (w.alloc (.cells #[.int .i64 t, .int .i64 m] 24)) := (Below.refl _ w).alloc (Nat.le_refl _) _
  have h := h.below hB0
  have x0 : (w.alloc (.cells #[.int .i64 t, .int .i64 m] 24)).cell? ⟨w.heap.size, 0, none⟩ = some (.int .i64 t) := by simp [go_sem]
  have x1 : (w.alloc (.cells #[.int .i64 t, .int .i64 m] 24)).cell? ⟨w.heap.size, 1, none⟩ = some (.int .i64 m) := by simp [go_sem]
  have hsz : w.heap.size < (w.alloc (.cells #[.int .i64 t, .int .i64 m] 24)).heap.size := by simp
  have hck := fun W h => checkC A c l W hl h
  by_cases hc : checkL l = 0
  · rw [hc] at hck
    by_cases hk : (ivOk t m)
    · have hi := fun W => icheckC t m W hk.1 hk.2.1 hk.2.2.1 hk.2.2.2
      have hch := fun (W : World) (hs : SlT W A l) (hb : Below (w.alloc (.cells #[.int .i64 t, .int .i64 m] 24)).heap.size (w.alloc (.cells #[.int .i64 t, .int .i64 m] 24)) W) => changedC 20 (.pointer (some ⟨w.heap.size, 0, none⟩)) (fun p => trP p t m) (fun p => trE p m) eg (fun p => trE_or p m) A c l W hc hs
        (fun p W' hp hb' => clo20 p t m w.heap.size W' hp hk.1 hk.2.1 hk.2.2.1 hk.2.2.2 (Nat.lt_of_lt_of_le hsz (Nat.le_trans hb.size hb'.size)) ((hb'.cell (p := ⟨w.heap.size, 0, none⟩) (Nat.lt_of_lt_of_le hsz hb.size)).trans ((hb.cell (p := ⟨w.heap.size, 0, none⟩) hsz).trans x0)) ((hb'.cell (p := ⟨w.heap.size, 1, none⟩) (Nat.lt_of_lt_of_le hsz hb.size)).trans ((hb.cell (p := ⟨w.heap.size, 1, none⟩) hsz).trans x1)))
      have hfin : ∀ r w', ChEnd (fun p => trP p t m) (fun p => trE p m) l r w' → TopEnd 2 (fun p => trP p t m) (fun p => trE p m) l (ivOk t m) r w' := fun r w' he => ⟨fun h => absurd hc h, fun _ h => absurd hk h, fun _ _ => he⟩
      clear hc hk
      have hfm := fun e w' (he : ChEnd (fun p => trP p t m) (fun p => trE p m) l e w') => he.form
      generalize hn : l.length = n at *
      have hfin := Lib.hid hfin
      go_enter Tryz.func5, Tryz.ntmps5
      go_upto_region 1 with (fail)
      generalize (w.alloc (.cells #[.int .i64 t, .int .i64 m] 24)) = v at *
      go_wp2_with fail
      refine (hck _ h).mono ?_
      rintro e w1 ⟨rfl, hb1⟩
      have h := h.below hb1
      have k0 := (hb1.cell (p := ⟨w.heap.size, 0, none⟩) hsz).trans x0
      have k1 := (hb1.cell (p := ⟨w.heap.size, 1, none⟩) hsz).trans x1
      go_wp2_with fail
      refine (hi _).mono ?_
      rintro e w2 ⟨rfl, hb2⟩
      have h := h.below hb2
      have hb12 := hb1.trans (hb2.mono hb1.size)
      have hch2 := hch w2 h hb12
      clear hck hi hch
      go_wp2_with fail
      refine hch2.mono ?_
      rintro e w3 ⟨he, hb3⟩
      obtain ⟨u, er, rfl⟩ := hfm _ _ he
      have hX := Lib.hid (hfin.out _ _ he)
      clear he hfm hch2 hfin
      go_wp2_with fail
      go_ret2
      exact ⟨hX.out, hB0.trans ((hb12.trans (hb3.mono hb12.size)).mono hB0.size)⟩
    · have hi := fun W => icheckBad t m W (by unfold ivOk at hk; omega)
      have hfin : ∀ w', TopEnd 2 (fun p => trP p t m) (fun p => trE p m) l (ivOk t m) (.returned (.tuple #[.slice none 0 0, .int .i64 2])) w' := fun w' => ⟨fun h => absurd hc h, fun _ _ => rfl, fun _ h => absurd h hk⟩
      clear hc hk
      generalize hn : l.length = n at *
      have hfin := Lib.hid hfin
      go_enter Tryz.func5, Tryz.ntmps5
      go_upto_region 1 with (fail)
      generalize (w.alloc (.cells #[.int .i64 t, .int .i64 m] 24)) = v at *
      go_wp2_with fail
      refine (hck _ h).mono ?_
      rintro e w1 ⟨rfl, hb1⟩
      have k0 := (hb1.cell (p := ⟨w.heap.size, 0, none⟩) hsz).trans x0
      have k1 := (hb1.cell (p := ⟨w.heap.size, 1, none⟩) hsz).trans x1
      go_wp2_with fail
      refine (hi _).mono ?_
      rintro e w2 ⟨rfl, hb2⟩
      have hb12 := hb1.trans (hb2.mono hb1.size)
      go_wp2_with fail
      go_ret2
      exact ⟨hfin.out _, hB0.trans (hb12.mono hB0.size)⟩
  · have hfin : ∀ w', TopEnd 2 (fun p => trP p t m) (fun p => trE p m) l (ivOk t m) (.returned (.tuple #[.slice none 0 0, .int .i64 (checkL l)])) w' := fun w' => ⟨fun _ => rfl, fun h => absurd h hc, fun h => absurd h hc⟩
    have dc : (checkL l != 0) = true := by simpa using hc
    clear hc
    generalize checkL l = ck at *
    generalize hn : l.length = n at *
    have hfin := Lib.hid hfin
    go_enter Tryz.func5, Tryz.ntmps5
    go_upto_region 1 with (fail)
    generalize (w.alloc (.cells #[.int .i64 t, .int .i64 m] 24)) = v at *
    go_wp2_with fail
    refine (hck _ h).mono ?_
    rintro e w1 ⟨rfl, hb1⟩
    go_wp2_with fail
    go_ret2
    exact ⟨hfin.out _, hB0.trans (hb1.mono hB0.size)⟩


theorem axC (ax : Pit) (W : World) (h : pitchCheckF ax.st ax.al ax.oc = 0) : Calls Tryz.prog 15 #[.agg #[.int .i64 ax.st, .int .i64 ax.al, .int .i64 ax.oc]] W fun e w' => e = .returned (.int .i64 0) ∧ Below W.heap.size W w' := by
  have := pitchCheck ax.st ax.al ax.oc W
  rwa [h] at this
theorem axBad (ax : Pit) (W : World) (h : ¬ pitchCheckF ax.st ax.al ax.oc = 0) : Calls Tryz.prog 15 #[.agg #[.int .i64 ax.st, .int .i64 ax.al, .int .i64 ax.oc]] W fun e w' => e = .returned (.int .i64 18) ∧ Below W.heap.size W w' := by
  have := pitchCheck ax.st ax.al ax.oc W
  rwa [(pitchCheckF_or ax.st ax.al ax.oc).resolve_left h] at this
set_option maxHeartbeats 4000000 in
theorem invC (A : Option Addr) (c : Nat) (l : List Tone) (ax : Pit) (w : World) (hl : l.length ≤ 1000) (h : SlT w A l) :
    Calls Tryz.prog 6 #[.slice A l.length c, pitV ax] w fun r w' => TopEnd 18 (mirP ax) (mirE ax) l (pitchCheckF ax.st ax.al ax.oc = 0) r w' ∧ Below w.heap.size w w' := by
  have eg : ∀ args w, (callFunc 21 args).run Tryz.prog w = .ok (.enter 21 args) w := fun args w => by first | simp [go_sem] | rfl
  have hB0 : Below w.heap.size w (w.alloc (.cells #[.int .i64 ax.st, .int .i64 ax.al, .int .i64 ax.oc] 26)) := (Below.refl _ w).alloc (Nat.le_refl _) _
  have h := h.below hB0
  have x0 : (w.alloc (.cells #[.int .i64 ax.st, .int .i64 ax.al, .int .i64 ax.oc] 26)).cell? ⟨w.heap.size, 0, none⟩ = some (.int .i64 ax.st) := by simp [go_sem]
  have x1 : (w.alloc (.cells #[.int .i64 ax.st, .int .i64 ax.al, .int .i64 ax.oc] 26)).cell? ⟨w.heap.size, 1, none⟩ = some (.int .i64 ax.al) := by simp [go_sem]
  have x2 : (w.alloc (.cells #[.int .i64 ax.st, .int .i64 ax.al, .int .i64 ax.oc] 26)).cell? ⟨w.heap.size, 2, none⟩ = some (.int .i64 ax.oc) := by simp [go_sem]
  have hsz : w.heap.size < (w.alloc (.cells #[.int .i64 ax.st, .int .i64 ax.al, .int .i64 ax.oc] 26)).heap.size := by simp
  have hck := fun W h => checkC A c l W hl h
  by_cases hc : checkL l = 0
  · rw [hc] at hck
    by_cases hk : (pitchCheckF ax.st ax.al ax.oc = 0)
    · have hi := fun W => axC ax W hk
      have hch := fun (W : World) (hs : SlT W A l) (hb : Below (w.alloc (.cells #[.int .i64 ax.st, .int .i64 ax.al, .int .i64 ax.oc] 26)).heap.size (w.alloc (.cells #[.int .i64 ax.st, .int .i64 ax.al, .int .i64 ax.oc] 26)) W) => changedC 21 (.pointer (some ⟨w.heap.size, 0, none⟩)) (mirP ax) (mirE ax) eg (mirE_or ax) A c l W hc hs
        (fun p W' hp hb' => clo21 p ax w.heap.size W' hp hk (Nat.lt_of_lt_of_le hsz (Nat.le_trans hb.size hb'.size)) ((hb'.cell (p := ⟨w.heap.size, 0, none⟩) (Nat.lt_of_lt_of_le hsz hb.size)).trans ((hb.cell (p := ⟨w.heap.size, 0, none⟩) hsz).trans x0)) ((hb'.cell (p := ⟨w.heap.size, 1, none⟩) (Nat.lt_of_lt_of_le hsz hb.size)).trans ((hb.cell (p := ⟨w.heap.size, 1, none⟩) hsz).trans x1)) ((hb'.cell (p := ⟨w.heap.size, 2, none⟩) (Nat.lt_of_lt_of_le hsz hb.size)).trans ((hb.cell (p := ⟨w.heap.size, 2, none⟩) hsz).trans x2)))
      have hfin : ∀ r w', ChEnd (mirP ax) (mirE ax) l r w' → TopEnd 18 (mirP ax) (mirE ax) l (pitchCheckF ax.st ax.al ax.oc = 0) r w' := fun r w' he => ⟨fun h => absurd hc h, fun _ h => absurd hk h, fun _ _ => he⟩
      clear hc hk
      have hfm := fun e w' (he : ChEnd (mirP ax) (mirE ax) l e w') => he.form
      generalize hn : l.length = n at *
      have hfin := Lib.hid hfin
      go_enter Tryz.func6, Tryz.ntmps6
      go_upto_region 1 with (fail)
      generalize (w.alloc (.cells #[.int .i64 ax.st, .int .i64 ax.al, .int .i64 ax.oc] 26)) = v at *
      go_wp2_with fail
      refine (hck _ h).mono ?_
      rintro e w1 ⟨rfl, hb1⟩
      have h := h.below hb1
      have k0 := (hb1.cell (p := ⟨w.heap.size, 0, none⟩) hsz).trans x0
      have k1 := (hb1.cell (p := ⟨w.heap.size, 1, none⟩) hsz).trans x1
      have k2 := (hb1.cell (p := ⟨w.heap.size, 2, none⟩) hsz).trans x2
      go_wp2_with fail
      refine (hi _).mono ?_
      rintro e w2 ⟨rfl, hb2⟩
      have h := h.below hb2
      have hb12 := hb1.trans (hb2.mono hb1.size)
      have hch2 := hch w2 h hb12
      clear hck hi hch
      go_wp2_with fail
      refine hch2.mono ?_
      rintro e w3 ⟨he, hb3⟩
      obtain ⟨u, er, rfl⟩ := hfm _ _ he
      have hX := Lib.hid (hfin.out _ _ he)
      clear he hfm hch2 hfin
      go_wp2_with fail
      go_ret2
      exact ⟨hX.out, hB0.trans ((hb12.trans (hb3.mono hb12.size)).mono hB0.size)⟩
    · have hi := fun W => axBad ax W hk
      have hfin : ∀ w', TopEnd 18 (mirP ax) (mirE ax) l (pitchCheckF ax.st ax.al ax.oc = 0) (.returned (.tuple #[.slice none 0 0, .int .i64 18])) w' := fun w' => ⟨fun h => absurd hc h, fun _ _ => rfl, fun _ h => absurd h hk⟩
      clear hc hk
      generalize hn : l.length = n at *
      have hfin := Lib.hid hfin
      go_enter Tryz.func6, Tryz.ntmps6
      go_upto_region 1 with (fail)
      generalize (w.alloc (.cells #[.int .i64 ax.st, .int .i64 ax.al, .int .i64 ax.oc] 26)) = v at *
      go_wp2_with fail
      refine (hck _ h).mono ?_
      rintro e w1 ⟨rfl, hb1⟩
      have k0 := (hb1.cell (p := ⟨w.heap.size, 0, none⟩) hsz).trans x0
      have k1 := (hb1.cell (p := ⟨w.heap.size, 1, none⟩) hsz).trans x1
      have k2 := (hb1.cell (p := ⟨w.heap.size, 2, none⟩) hsz).trans x2
      go_wp2_with fail
      refine (hi _).mono ?_
      rintro e w2 ⟨rfl, hb2⟩
      have hb12 := hb1.trans (hb2.mono hb1.size)
      go_wp2_with fail
      go_ret2
      exact ⟨hfin.out _, hB0.trans (hb12.mono hB0.size)⟩
  · have hfin : ∀ w', TopEnd 18 (mirP ax) (mirE ax) l (pitchCheckF ax.st ax.al ax.oc = 0) (.returned (.tuple #[.slice none 0 0, .int .i64 (checkL l)])) w' := fun w' => ⟨fun _ => rfl, fun h => absurd h hc, fun h => absurd h hc⟩
    have dc : (checkL l != 0) = true := by simpa using hc
    clear hc
    generalize checkL l = ck at *
    generalize hn : l.length = n at *
    have hfin := Lib.hid hfin
    go_enter Tryz.func6, Tryz.ntmps6
    go_upto_region 1 with (fail)
    generalize (w.alloc (.cells #[.int .i64 ax.st, .int .i64 ax.al, .int .i64 ax.oc] 26)) = v at *
    go_wp2_with fail
    refine (hck _ h).mono ?_
    rintro e w1 ⟨rfl, hb1⟩
    go_wp2_with fail
    go_ret2
    exact ⟨hfin.out _, hB0.trans (hb1.mono hB0.size)⟩

end Go.Proofs.YteoghladllohjaaGreatDoor
