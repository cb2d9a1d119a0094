/- MergeKeeps: walk. -/
import Derived.Test.YtacoeahipklibaaDoorK1
import Derived.Test.YtacoeahipklibaaDoorB11
namespace Go.Proofs.YtacoeahipklibaaDoor
open Go.RowKit

theorem cells2 {a w' : World} {g o1 o2 : Nat} {u v : Value} (h : Below a.heap.size a w') (hg : g < a.heap.size) (hc : a.cell? ⟨g, o1, none⟩ = some u ∧ a.cell? ⟨g, o2, none⟩ = some v) : w'.cell? ⟨g, o1, none⟩ = some u ∧ w'.cell? ⟨g, o2, none⟩ = some v :=
  ⟨(h.cell (p := ⟨g, o1, none⟩) hg).trans hc.1, (h.cell (p := ⟨g, o2, none⟩) hg).trans hc.2⟩

set_option maxHeartbeats 2000000 in
theorem keepsBad (A1 A2 A3 : Option Addr) (c1 c2 c3 n1 n2 n3 : Nat) (w : World) (h : 12 < n1 ∨ (n1 ≤ 12 ∧ 12 < n2) ∨ (n1 ≤ 12 ∧ n2 ≤ 12 ∧ 12 < n3)) :
    Calls Tryd.prog 4 #[.slice A1 n1 c1, .slice A2 n2 c2, .slice A3 n3 c3] w fun r w' => r = .returned (.bool true) ∧ Below w.heap.size w w' := by
  rcases h with h | ⟨h, h2⟩ | ⟨h, h2, h3⟩
  · have e1 : decide ((12 : Int) < n1) = true := decide_eq_true (by omega)
    go_enter Tryd.func4, Tryd.ntmps4
    go_wp2_with fail
    refine (known _).mono ?_
    rintro e w1 ⟨rfl, hb⟩
    go_wp2_with fail
    refine (known _).mono ?_
    rintro e w3 ⟨rfl, hb3⟩
    go_wp2_with fail
    go_ret
    exact ⟨rfl, hb.trans (hb3.mono hb.size)⟩
  · have e1 : decide ((12 : Int) < n1) = false := decide_eq_false (by omega)
    have e2 : decide ((12 : Int) < n2) = true := decide_eq_true (by omega)
    go_enter Tryd.func4, Tryd.ntmps4
    go_wp2_with fail
    refine (known _).mono ?_
    rintro e w1 ⟨rfl, hb⟩
    go_wp2_with fail
    refine (known _).mono ?_
    rintro e w3 ⟨rfl, hb3⟩
    go_wp2_with fail
    go_ret
    exact ⟨rfl, hb.trans (hb3.mono hb.size)⟩
  · have e1 : decide ((12 : Int) < n1) = false := decide_eq_false (by omega)
    have e2 : decide ((12 : Int) < n2) = false := decide_eq_false (by omega)
    have e3 : decide ((12 : Int) < n3) = true := decide_eq_true (by omega)
    go_enter Tryd.func4, Tryd.ntmps4
    go_wp2_with fail
    refine (known _).mono ?_
    rintro e w1 ⟨rfl, hb⟩
    go_wp2_with fail
    refine (known _).mono ?_
    rintro e w3 ⟨rfl, hb3⟩
    go_wp2_with fail
    go_ret
    exact ⟨rfl, hb.trans (hb3.mono hb.size)⟩

set_option maxHeartbeats 16000000 in
set_option maxRecDepth 100000 in
theorem keepsGood (A1 A2 A3 : Option Addr) (c1 c2 c3 : Nat) (base left right : List Id) (w : World) (hb1 : base.length ≤ 12) (hl1 : left.length ≤ 12) (hr1 : right.length ≤ 12) (hb : SlI w A1 base) (hl : SlI w A2 left) (hr : SlI w A3 right) :
    Calls Tryd.prog 4 #[.slice A1 base.length c1, .slice A2 left.length c2, .slice A3 right.length c3] w fun r w' => r = .returned (.bool true) ∧ Below w.heap.size w w' := by
  have e1 : decide ((12 : Int) < base.length) = false := decide_eq_false (by omega)
  have e2 : decide ((12 : Int) < left.length) = false := decide_eq_false (by omega)
  have e3 : decide ((12 : Int) < right.length) = false := decide_eq_false (by omega)
  have hlen := seqF_len base left right
  have hmem := fun x => mem_seqF (base := base) (left := left) (right := right) (x := x)
  have hSq := fun w h1 h2 h3 => sequenceP A1 A2 A3 c1 c2 c3 base left right w (by omega) (by omega) (by omega) h1 h2 h3
  generalize seqF base left right = L at *
  go_enter Tryd.func4, Tryd.ntmps4
  go_wp2_with fail
  refine (known _).mono ?_
  rintro e w1 ⟨rfl, B1⟩
  have hb := hb.below B1
  have hl := hl.below B1
  have hr := hr.below B1
  have z1 := B1.size
  go_wp2_with fail
  refine (hSq w1 hb hl hr).mono ?_
  rintro e w2 ⟨⟨AL, cL, rfl, hL⟩, B2⟩
  have hb := hb.below B2
  have hl := hl.below B2
  have hr := hr.below B2
  have B2 := B1.trans (B2.mono z1)
  have z2 := B2.size
  clear hSq B1 z1
  have hown0 : OwnI (w2.alloc (.cells #[] 30)) w2.heap.size (.slice (some ⟨w2.heap.size, 0, none⟩) 0 0) [] := ⟨rfl, .inr ⟨w2.heap.size, 0, #[], rfl, Nat.le_refl _, heap_alloc_new w2 _, Nat.le_refl _, by unfold maxLen; omega, rfl, rfl⟩⟩
  have hB0 : Below w2.heap.size w2 (w2.alloc (.cells #[] 30)) := (Below.refl _ _).alloc (Nat.le_refl _) _
  go_wp2_with (first
    | (at_builtin; refine wpList_appendSl _ rfl _ _ rfl w2.heap.size _ [] base (by rfl) hown0 A1 c1 (by rfl) (hb.below hB0) (by simp; omega) (by simp) ?_; intro v3 w3 hown3 hg3; have hB3 : Below w2.heap.size w2 w3 := hB0.grown hg3 (by simp) (fun j hj => (hown0.lt j hj).1); have z3 := hB3.size)
    | (at_builtin; refine wpList_appendSl _ rfl _ _ rfl w2.heap.size _ ([] ++ base) left (by rfl) hown3 A2 c2 (by rfl) (hl.below hB3) (by simp; omega) z3 ?_; intro v4 w4 hown4 hg4; have hB4 : Below w2.heap.size w2 w4 := hB3.grown hg4 z3 (fun j hj => (hown3.lt j hj).1); have z4 := hB4.size)
    | (at_builtin; refine wpList_appendSl _ rfl _ _ rfl w2.heap.size _ ([] ++ base ++ left) right (by rfl) hown4 A3 c3 (by rfl) (hr.below hB4) (by simp; omega) z4 ?_; intro v5 w5 hown5 hg5; have hB5 : Below w2.heap.size w2 w5 := hB4.grown hg5 z4 (fun j hj => (hown4.lt j hj).1); have z5 := hB5.size))
  obtain ⟨AA, cA, rfl, hA⟩ := hown5.slice
  have hb := hb.below hB5
  have hl := hl.below hB5
  have hr := hr.below hB5
  have hL := hL.below hB5
  have BB := B2.trans (hB5.mono z2)
  have zB := BB.size
  have hall : ∀ x, x ∈ ([] ++ base ++ left ++ right) ↔ x ∈ base ∨ x ∈ left ∨ x ∈ right := fun x => by simp
  have hallen : ([] ++ base ++ left ++ right).length ≤ 36 := by simp; omega
  clear hown0 hB0 hown3 hg3 hB3 z3 hown4 hg4 hB4 z4 hown5 hg5 hB5 z5 B2 z2 e1 e2 e3
  generalize ([] ++ base ++ left ++ right) = ALL at *
  have i1 := fun x w' h => indexC A1 c1 base x w' (by omega) (hb.below h)
  have i2 := fun x w' h => indexC A2 c2 left x w' (by omega) (hl.below h)
  have i3 := fun x w' h => indexC A3 c3 right x w' (by omega) (hr.below h)
  have iL := fun x w' h => indexC AL cL L x w' (by omega) (hL.below h)
  have iA := fun x w' h => indexC AA cA ALL x w' (by omega) (hA.below h)
  clear hb hl hr
  go_wp2_with fail
  go_loopw [9] (fun i wr => ∃ k : Nat, k ≤ ALL.length ∧ i = .int .i64 k ∧ Below w5.heap.size w5 wr) (fun i _ => ALL.length - (intOf i).toNat)
  case atStart => exact ⟨0, by omega, rfl, Below.refl _ _⟩
  case round =>
    obtain ⟨k, hk, rfl, hB⟩ := hrel
    have hz := hB.size
    by_cases hlt : k < ALL.length
    · obtain ⟨g, off, hAd, hlg, hrd⟩ := hA.some hlt
      cases hAd
      obtain ⟨r0, r1⟩ := hrd.below hB hlg k hlt
      have hmx := hmem (ith ALL k)
      have j1 := Lib.hid (i1 (ith ALL k))
      have j2 := Lib.hid (i2 (ith ALL k))
      have j3 := Lib.hid (i3 (ith ALL k))
      have jL := Lib.hid (iL (ith ALL k))
      clear i1 i2 i3 iL iA hmem hall
      have m1 := idx_nonneg (l := base) (x := ith ALL k)
      have m2 := idx_nonneg (l := left) (x := ith ALL k)
      have m3 := idx_nonneg (l := right) (x := ith ALL k)
      have mL := idx_nonneg (l := L) (x := ith ALL k)
      generalize ith ALL k = x at *
      generalize idx base x = I1 at *
      generalize idx left x = I2 at *
      generalize idx right x = I3 at *
      generalize idx L x = IL at *
      rw [hmx] at mL
      rw [← m1, ← m2, ← m3] at mL
      clear m1 m2 m3 hmx
      by_cases h2 : 0 ≤ I2
      · by_cases h3 : 0 ≤ I3
        · have h1 := True.intro
          have d2 : decide (0 ≤ I2) = true := decide_eq_true (by omega)
          have d3 : decide (0 ≤ I3) = true := decide_eq_true (by omega)
          have dL : decide (0 ≤ IL) = true := decide_eq_true (by rw [mL]; omega)
          clear mL h2 h3 hrd hA hL
          go_wp2_with fail
          go_region_held3 (fun w' => w'.cell? ⟨g, off + k * 2, none⟩ = some (.int .i64 x.s) ∧ w'.cell? ⟨g, off + k * 2 + 1, none⟩ = some (.int .i64 x.n))
            (first | exact s3 | exact s2 | exact ⟨r0, r1⟩)
            (first
              | (go_at_call 11; refine (j3.out v1 hB1).mono ?_; rintro e v2 ⟨rfl, hv2⟩; have hB2 := hB1.trans (hv2.mono hB1.size); have s3 := cells2 hv2 (show g < v1.heap.size by have := hB1.size; omega) s2)
              | (go_at_call 11; refine (j2.out wr.drew hB.drew).mono ?_; rintro e v1 ⟨rfl, hv1⟩; have hB1 := hB.drew.trans (hv1.mono hz); have s2 := cells2 hv1 (show g < wr.heap.size by omega) ⟨r0, r1⟩))
          obtain ⟨q0, q1⟩ := s3
          have zB2 := hB2.size
          go_wp2_with fail
          refine (jL.out v2 hB2).mono ?_
          rintro e v9 ⟨rfl, hv9⟩
          go_wp2_with fail
          go_roundw
          case rel => exact ⟨k + 1, by omega, by go_num, hB2.trans (hv9.mono hB2.size)⟩
          case measure => simp [intOf]; omega
        · by_cases h1 : 0 ≤ I1
          · have d2 : decide (0 ≤ I2) = true := decide_eq_true (by omega)
            have d3 : decide (0 ≤ I3) = false := decide_eq_false (by omega)
            have d1 : decide (I1 < 0) = false := decide_eq_false (by omega)
            have dL : decide (0 ≤ IL) = false := decide_eq_false (by rw [mL]; omega)
            clear mL h2 h3 hrd hA hL h1
            go_wp2_with fail
            go_region_held3 (fun w' => w'.cell? ⟨g, off + k * 2, none⟩ = some (.int .i64 x.s) ∧ w'.cell? ⟨g, off + k * 2 + 1, none⟩ = some (.int .i64 x.n))
              (first | exact s3 | exact s2 | exact ⟨r0, r1⟩)
              (first
                | (go_at_call 11; refine (j3.out v1 hB1).mono ?_; rintro e v2 ⟨rfl, hv2⟩; have hB2 := hB1.trans (hv2.mono hB1.size); have s3 := cells2 hv2 (show g < v1.heap.size by have := hB1.size; omega) s2)
                | (go_at_call 11; refine (j2.out wr.drew hB.drew).mono ?_; rintro e v1 ⟨rfl, hv1⟩; have hB1 := hB.drew.trans (hv1.mono hz); have s2 := cells2 hv1 (show g < wr.heap.size by omega) ⟨r0, r1⟩))
            obtain ⟨q0, q1⟩ := s3
            have zB2 := hB2.size
            go_wp2_with fail
            refine (j1.out v2 hB2).mono ?_
            rintro e v3 ⟨rfl, hv3⟩
            have q0 := (hv3.cell (p := ⟨g, off + k * 2, none⟩) (by show g < _; omega)).trans q0
            have q1 := (hv3.cell (p := ⟨g, off + k * 2 + 1, none⟩) (by show g < _; omega)).trans q1
            have hB3 := hB2.trans (hv3.mono zB2)
            go_wp2_with fail
            refine (jL.out v3 hB3).mono ?_
            rintro e v9 ⟨rfl, hv9⟩
            go_wp2_with fail
            go_roundw
            case rel => exact ⟨k + 1, by omega, by go_num, hB3.trans (hv9.mono hB3.size)⟩
            case measure => simp [intOf]; omega
          · have d2 : decide (0 ≤ I2) = true := decide_eq_true (by omega)
            have d3 : decide (0 ≤ I3) = false := decide_eq_false (by omega)
            have d1 : decide (I1 < 0) = true := decide_eq_true (by omega)
            have dL : decide (0 ≤ IL) = true := decide_eq_true (by rw [mL]; omega)
            clear mL h2 h3 hrd hA hL h1
            go_wp2_with fail
            go_region_held3 (fun w' => w'.cell? ⟨g, off + k * 2, none⟩ = some (.int .i64 x.s) ∧ w'.cell? ⟨g, off + k * 2 + 1, none⟩ = some (.int .i64 x.n))
              (first | exact s3 | exact s2 | exact ⟨r0, r1⟩)
              (first
                | (go_at_call 11; refine (j3.out v1 hB1).mono ?_; rintro e v2 ⟨rfl, hv2⟩; have hB2 := hB1.trans (hv2.mono hB1.size); have s3 := cells2 hv2 (show g < v1.heap.size by have := hB1.size; omega) s2)
                | (go_at_call 11; refine (j2.out wr.drew hB.drew).mono ?_; rintro e v1 ⟨rfl, hv1⟩; have hB1 := hB.drew.trans (hv1.mono hz); have s2 := cells2 hv1 (show g < wr.heap.size by omega) ⟨r0, r1⟩))
            obtain ⟨q0, q1⟩ := s3
            have zB2 := hB2.size
            go_wp2_with fail
            refine (j1.out v2 hB2).mono ?_
            rintro e v3 ⟨rfl, hv3⟩
            have q0 := (hv3.cell (p := ⟨g, off + k * 2, none⟩) (by show g < _; omega)).trans q0
            have q1 := (hv3.cell (p := ⟨g, off + k * 2 + 1, none⟩) (by show g < _; omega)).trans q1
            have hB3 := hB2.trans (hv3.mono zB2)
            go_wp2_with fail
            refine (jL.out v3 hB3).mono ?_
            rintro e v9 ⟨rfl, hv9⟩
            go_wp2_with fail
            go_roundw
            case rel => exact ⟨k + 1, by omega, by go_num, hB3.trans (hv9.mono hB3.size)⟩
            case measure => simp [intOf]; omega
      · by_cases h3 : 0 ≤ I3
        · by_cases h1 : 0 ≤ I1
          · have d2 : decide (0 ≤ I2) = false := decide_eq_false (by omega)
            have d3 : decide (0 ≤ I3) = true := decide_eq_true (by omega)
            have d1 : decide (I1 < 0) = false := decide_eq_false (by omega)
            have dL : decide (0 ≤ IL) = false := decide_eq_false (by rw [mL]; omega)
            clear mL h2 h3 hrd hA hL h1
            go_wp2_with fail
            go_region_held3 (fun w' => w'.cell? ⟨g, off + k * 2, none⟩ = some (.int .i64 x.s) ∧ w'.cell? ⟨g, off + k * 2 + 1, none⟩ = some (.int .i64 x.n))
              (first | exact s3 | exact s2 | exact ⟨r0, r1⟩)
              (first
                | (go_at_call 11; refine (j3.out v1 hB1).mono ?_; rintro e v2 ⟨rfl, hv2⟩; have hB2 := hB1.trans (hv2.mono hB1.size); have s3 := cells2 hv2 (show g < v1.heap.size by have := hB1.size; omega) s2)
                | (go_at_call 11; refine (j2.out wr.drew hB.drew).mono ?_; rintro e v1 ⟨rfl, hv1⟩; have hB1 := hB.drew.trans (hv1.mono hz); have s2 := cells2 hv1 (show g < wr.heap.size by omega) ⟨r0, r1⟩))
            obtain ⟨q0, q1⟩ := s3
            have zB2 := hB2.size
            go_wp2_with fail
            refine (j1.out v2 hB2).mono ?_
            rintro e v3 ⟨rfl, hv3⟩
            have q0 := (hv3.cell (p := ⟨g, off + k * 2, none⟩) (by show g < _; omega)).trans q0
            have q1 := (hv3.cell (p := ⟨g, off + k * 2 + 1, none⟩) (by show g < _; omega)).trans q1
            have hB3 := hB2.trans (hv3.mono zB2)
            go_wp2_with fail
            refine (jL.out v3 hB3).mono ?_
            rintro e v9 ⟨rfl, hv9⟩
            go_wp2_with fail
            go_roundw
            case rel => exact ⟨k + 1, by omega, by go_num, hB3.trans (hv9.mono hB3.size)⟩
            case measure => simp [intOf]; omega
          · have d2 : decide (0 ≤ I2) = false := decide_eq_false (by omega)
            have d3 : decide (0 ≤ I3) = true := decide_eq_true (by omega)
            have d1 : decide (I1 < 0) = true := decide_eq_true (by omega)
            have dL : decide (0 ≤ IL) = true := decide_eq_true (by rw [mL]; omega)
            clear mL h2 h3 hrd hA hL h1
            go_wp2_with fail
            go_region_held3 (fun w' => w'.cell? ⟨g, off + k * 2, none⟩ = some (.int .i64 x.s) ∧ w'.cell? ⟨g, off + k * 2 + 1, none⟩ = some (.int .i64 x.n))
              (first | exact s3 | exact s2 | exact ⟨r0, r1⟩)
              (first
                | (go_at_call 11; refine (j3.out v1 hB1).mono ?_; rintro e v2 ⟨rfl, hv2⟩; have hB2 := hB1.trans (hv2.mono hB1.size); have s3 := cells2 hv2 (show g < v1.heap.size by have := hB1.size; omega) s2)
                | (go_at_call 11; refine (j2.out wr.drew hB.drew).mono ?_; rintro e v1 ⟨rfl, hv1⟩; have hB1 := hB.drew.trans (hv1.mono hz); have s2 := cells2 hv1 (show g < wr.heap.size by omega) ⟨r0, r1⟩))
            obtain ⟨q0, q1⟩ := s3
            have zB2 := hB2.size
            go_wp2_with fail
            refine (j1.out v2 hB2).mono ?_
            rintro e v3 ⟨rfl, hv3⟩
            have q0 := (hv3.cell (p := ⟨g, off + k * 2, none⟩) (by show g < _; omega)).trans q0
            have q1 := (hv3.cell (p := ⟨g, off + k * 2 + 1, none⟩) (by show g < _; omega)).trans q1
            have hB3 := hB2.trans (hv3.mono zB2)
            go_wp2_with fail
            refine (jL.out v3 hB3).mono ?_
            rintro e v9 ⟨rfl, hv9⟩
            go_wp2_with fail
            go_roundw
            case rel => exact ⟨k + 1, by omega, by go_num, hB3.trans (hv9.mono hB3.size)⟩
            case measure => simp [intOf]; omega
        · have h1 := True.intro
          have d2 : decide (0 ≤ I2) = false := decide_eq_false (by omega)
          have d3 : decide (0 ≤ I3) = false := decide_eq_false (by omega)
          have dL : decide (0 ≤ IL) = false := decide_eq_false (by rw [mL]; omega)
          clear mL h2 h3 hrd hA hL
          go_wp2_with fail
          go_region_held3 (fun w' => w'.cell? ⟨g, off + k * 2, none⟩ = some (.int .i64 x.s) ∧ w'.cell? ⟨g, off + k * 2 + 1, none⟩ = some (.int .i64 x.n))
            (first | exact s3 | exact s2 | exact ⟨r0, r1⟩)
            (first
              | (go_at_call 11; refine (j3.out v1 hB1).mono ?_; rintro e v2 ⟨rfl, hv2⟩; have hB2 := hB1.trans (hv2.mono hB1.size); have s3 := cells2 hv2 (show g < v1.heap.size by have := hB1.size; omega) s2)
              | (go_at_call 11; refine (j2.out wr.drew hB.drew).mono ?_; rintro e v1 ⟨rfl, hv1⟩; have hB1 := hB.drew.trans (hv1.mono hz); have s2 := cells2 hv1 (show g < wr.heap.size by omega) ⟨r0, r1⟩))
          obtain ⟨q0, q1⟩ := s3
          have zB2 := hB2.size
          go_wp2_with fail
          refine (jL.out v2 hB2).mono ?_
          rintro e v9 ⟨rfl, hv9⟩
          go_wp2_with fail
          go_roundw
          case rel => exact ⟨k + 1, by omega, by go_num, hB2.trans (hv9.mono hB2.size)⟩
          case measure => simp [intOf]; omega
    · obtain rfl : k = ALL.length := by omega
      clear hlt hk i1 i2 i3 iL
      go_wp2_with fail
      go_loopw [13] (fun i wr => ∃ k : Nat, k ≤ L.length ∧ i = .int .i64 k ∧ Below w5.heap.size w5 wr) (fun i _ => L.length - (intOf i).toNat)
      case atStart => exact ⟨0, by omega, rfl, hB⟩
      case round =>
        clear hB hz
        obtain ⟨k, hk, rfl, hB⟩ := hrel
        have hz := hB.size
        by_cases hlt : k < L.length
        · obtain ⟨g, off, hAd, hlg, hrd⟩ := hL.some hlt
          cases hAd
          obtain ⟨r0, r1⟩ := hrd.below hB hlg k hlt
          have hx1 := (hmem (ith L k)).1 (ith_mem hlt)
          have hx2 : ith L k ∈ ALL := (hall _).2 (by rcases hx1 with ⟨h, _⟩ | ⟨h | h, _⟩ <;> simp [h])
          have d1 : decide (idx ALL (ith L k) < 0) = false := decide_eq_false (by have := idx_nonneg.2 hx2; omega)
          have jA := iA (ith L k) wr hB
          clear hx1 hx2 iA hmem hall
          generalize ith L k = x at *
          generalize idx ALL x = IA at *
          go_wp2_with fail
          refine jA.mono ?_
          rintro e v9 ⟨rfl, hv9⟩
          go_wp2_with fail
          go_roundw
          case rel => exact ⟨k + 1, by omega, by go_num, hB.trans (hv9.mono hz)⟩
          case measure => simp [intOf]; omega
        · obtain rfl : k = L.length := by omega
          go_wp2_with fail
          go_ret
          exact ⟨rfl, BB.trans (hB.mono zB)⟩

theorem keepsC (A1 A2 A3 : Option Addr) (c1 c2 c3 : Nat) (base left right : List Id) (w : World) (hb : SlI w A1 base) (hl : SlI w A2 left) (hr : SlI w A3 right) :
    Calls Tryd.prog 4 #[.slice A1 base.length c1, .slice A2 left.length c2, .slice A3 right.length c3] w fun r w' => r = .returned (.bool true) ∧ Below w.heap.size w w' := by
  by_cases h1 : base.length ≤ 12
  · by_cases h2 : left.length ≤ 12
    · by_cases h3 : right.length ≤ 12
      · exact keepsGood A1 A2 A3 c1 c2 c3 base left right w h1 h2 h3 hb hl hr
      · exact keepsBad _ _ _ _ _ _ _ _ _ w (.inr (.inr ⟨h1, h2, by omega⟩))
    · exact keepsBad _ _ _ _ _ _ _ _ _ w (.inr (.inl ⟨h1, by omega⟩))
  · exact keepsBad _ _ _ _ _ _ _ _ _ w (.inl (by omega))
end Go.Proofs.YtacoeahipklibaaDoor

