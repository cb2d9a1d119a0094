/- The model's compare. -/
import Derived.Test.YtacoeahipklibaaDoorD3
namespace Go.Proofs.YtacoeahipklibaaDoor
open Go.RowKit Go.Sort

/-- Two rows of four ints. -/
structure XY (w : World) (bx by_ : Nat) (X Y : List Int) : Prop where
  ne : bx ≠ by_
  x : ∀ k, k < 4 → w.cell? ⟨bx, k, none⟩ = some (.int .i64 (X.getD k 0))
  y : ∀ k, k < 4 → w.cell? ⟨by_, k, none⟩ = some (.int .i64 (Y.getD k 0))
  fx : w.frozen? ⟨bx, 2, none⟩ = false
  fy : w.frozen? ⟨by_, 2, none⟩ = false
theorem XY.drew {w : World} {bx by_ : Nat} {X Y : List Int} (h : XY w bx by_ X Y) : XY w.drew bx by_ X Y := ⟨h.ne, h.x, h.y, h.fx, h.fy⟩
def cl (X Y : List Int) : Nat → Nat → Int
  | 0, _ => 0
  | n + 1, k => if X.getD k 0 < Y.getD k 0 then -1 else if Y.getD k 0 < X.getD k 0 then 1 else cl X Y n (k + 1)
theorem cl_step (X Y : List Int) (k : Nat) (h : k < 4) : cl X Y (4 - k) k = if X.getD k 0 < Y.getD k 0 then -1 else if Y.getD k 0 < X.getD k 0 then 1 else cl X Y (4 - (k + 1)) (k + 1) := by
  obtain ⟨n, hn⟩ : ∃ n, 4 - k = n + 1 := ⟨3 - k, by omega⟩
  rw [hn, show 4 - (k + 1) = n by omega]
  rfl
def PK (a1 a2 a3 b1 b2 b3 : Int) (A B : ByteArray) (w : World) (n : Nat) : Prop :=
  w.cell? ⟨n, 0, none⟩ = some (.int .i64 a1) ∧ w.cell? ⟨n, 1, none⟩ = some (.int .i64 a2) ∧ w.cell? ⟨n, 2, none⟩ = some (.string A) ∧ w.cell? ⟨n, 3, none⟩ = some (.int .i64 a3) ∧
  w.cell? ⟨n + 1, 0, none⟩ = some (.int .i64 b1) ∧ w.cell? ⟨n + 1, 1, none⟩ = some (.int .i64 b2) ∧ w.cell? ⟨n + 1, 2, none⟩ = some (.string B) ∧ w.cell? ⟨n + 1, 3, none⟩ = some (.int .i64 b3)

theorem PK.below {a1 a2 a3 b1 b2 b3 : Int} {A B : ByteArray} {v w : World} {n : Nat} (h : PK a1 a2 a3 b1 b2 b3 A B v n) (hn : v.heap.size = n + 2) (hb : Below v.heap.size v w) : PK a1 a2 a3 b1 b2 b3 A B w n := by
  obtain ⟨z0, z1, z2, z3, z4, z5, z6, z7⟩ := h
  have h0 : n < v.heap.size := by omega
  have h1 : n + 1 < v.heap.size := by omega
  exact ⟨(hb.cell (p := ⟨n, 0, none⟩) h0).trans z0, (hb.cell (p := ⟨n, 1, none⟩) h0).trans z1, (hb.cell (p := ⟨n, 2, none⟩) h0).trans z2, (hb.cell (p := ⟨n, 3, none⟩) h0).trans z3,
    (hb.cell (p := ⟨n + 1, 0, none⟩) h1).trans z4, (hb.cell (p := ⟨n + 1, 1, none⟩) h1).trans z5, (hb.cell (p := ⟨n + 1, 2, none⟩) h1).trans z6, (hb.cell (p := ⟨n + 1, 3, none⟩) h1).trans z7⟩
theorem below_two (v : World) (o1 o2 : Obj) : Below v.heap.size v ((v.alloc o1).alloc o2).drew := (((Below.refl _ v).alloc (Nat.le_refl _) _).alloc (by simp) _).drew
abbrev row4 (a b c d : Int) : Obj := .cells #[.int .i64 a, .int .i64 b, .int .i64 c, .int .i64 d] 3
theorem XY.made (v : World) (n : Nat) (hn : v.heap.size = n) (a b c d e f g h : Int) : XY ((v.alloc (row4 a b c d)).alloc (row4 e f g h)).drew n (n + 1) [a, b, c, d] [e, f, g, h] := by
  subst hn
  refine ⟨by omega, fun k hk => ?_, fun k hk => ?_, by simp [go_sem], by simp [go_sem]⟩
  · obtain rfl | rfl | rfl | rfl : k = 0 ∨ k = 1 ∨ k = 2 ∨ k = 3 := by omega
    all_goals simp [go_sem]
  · obtain rfl | rfl | rfl | rfl : k = 0 ∨ k = 1 ∨ k = 2 ∨ k = 3 := by omega
    all_goals simp [go_sem]
theorem XY.swap {w : World} {bx by_ : Nat} {X Y : List Int} (h : XY w bx by_ X Y) : XY w by_ bx Y X := ⟨fun e => h.ne e.symm, h.y, h.x, h.fy, h.fx⟩
theorem XY.setY {w : World} {bx by_ : Nat} {X : List Int} {a b c d : Int} (h : XY w bx by_ X [a, b, c, d]) (z : Int) : XY (w.setCell ⟨by_, 2, none⟩ (.int .i64 z)) bx by_ X [a, b, z, d] := by
  have hne := h.ne
  have y0 := h.y 0 (by omega)
  have y1 := h.y 1 (by omega)
  have y2 := h.y 2 (by omega)
  have y3 := h.y 3 (by omega)
  have hfx := h.fx
  have hfy := h.fy
  refine ⟨hne, fun k hk => ?_, fun k hk => ?_, ?_, ?_⟩
  · have hx := h.x k hk
    rw [← hx]
    exact World.cell?_of_block (Below.heap_setCell _ _ _ _ (by simpa using hne))
  · obtain rfl | rfl | rfl | rfl : k = 0 ∨ k = 1 ∨ k = 2 ∨ k = 3 := by omega
    all_goals simp [go_sem, y0, y1, y2, y3]
  · rw [← hfx]
    exact World.frozen?_of_block (Below.heap_setCell _ _ _ _ (by simpa using hne))
  · simp [go_sem, hfy]

set_option maxHeartbeats 4000000 in
theorem compareM (a1 a2 a3 b1 b2 b3 : Int) (A B : ByteArray) (w : World) (ls eq : Bool) (hls : Op.bytesLess A.toList B.toList = ls) (heq : (A.toList == B.toList) = eq) (hle : ls = true → eq = false) :
    Calls Tryd.prog 13 #[.agg #[.int .i64 a1, .int .i64 a2, .string A, .int .i64 a3], .agg #[.int .i64 b1, .int .i64 b2, .string B, .int .i64 b3]] w fun e w' => e = .returned (.int .i64 (cl [a1, a2, if !ls && !eq then 1 else 0, a3] [b1, b2, if ls then 1 else 0, b3] 4 0)) ∧ Below w.heap.size w w' := by
  have hB : Below w.heap.size w ((w.alloc (.cells #[.int .i64 a1, .int .i64 a2, .string A, .int .i64 a3] 32)).alloc (.cells #[.int .i64 b1, .int .i64 b2, .string B, .int .i64 b3] 32)) := ((Below.refl _ w).alloc (Nat.le_refl _) _).alloc (by simp) _
  have hP : PK a1 a2 a3 b1 b2 b3 A B ((w.alloc (.cells #[.int .i64 a1, .int .i64 a2, .string A, .int .i64 a3] 32)).alloc (.cells #[.int .i64 b1, .int .i64 b2, .string B, .int .i64 b3] 32)) w.heap.size := by
    refine ⟨?_, ?_, ?_, ?_, ?_, ?_, ?_, ?_⟩ <;> simp [go_sem]
  have hS : ((w.alloc (.cells #[.int .i64 a1, .int .i64 a2, .string A, .int .i64 a3] 32)).alloc (.cells #[.int .i64 b1, .int .i64 b2, .string B, .int .i64 b3] 32)).heap.size = w.heap.size + 2 := by simp
  go_enter Tryd.func13, Tryd.ntmps13
  go_upto_region 1 with (fail)
  generalize (w.alloc (.cells #[.int .i64 a1, .int .i64 a2, .string A, .int .i64 a3] 32)).alloc (.cells #[.int .i64 b1, .int .i64 b2, .string B, .int .i64 b3] 32) = v at *
  go_cut [5, 6] (fun p q wc => ∃ bx by_, p = .slice (some ⟨bx, 0, none⟩) 4 4 ∧ q = .slice (some ⟨by_, 0, none⟩) 4 4 ∧ XY wc bx by_ [a1, a2, 0, a3] [b1, b2, 0, b3] ∧ PK a1 a2 a3 b1 b2 b3 A B wc w.heap.size ∧ w.heap.size < bx ∧ w.heap.size + 1 < bx ∧ w.heap.size + 1 < by_ ∧ Below w.heap.size w wc)
  case first =>
    have hP' := hP
    obtain ⟨z0, z1, z2, z3, z4, z5, z6, z7⟩ := hP'
    clear hls heq
    go_region
    · go_wp2_with fail
      go_meet
      exact ⟨_, _, rfl, rfl, XY.made v _ hS _ _ _ _ _ _ _ _, hP.below hS (below_two v _ _), by omega, by omega, by omega, hB.trans ((below_two v _ _).mono (by omega))⟩
    · go_wp2_with fail
      go_meet
      exact ⟨_, _, rfl, rfl, (XY.made v _ hS _ _ _ _ _ _ _ _).swap, hP.below hS (below_two v _ _), by omega, by omega, by omega, hB.trans ((below_two v _ _).mono (by omega))⟩
  case rest =>
    clear hB hP hS
    obtain ⟨bx, by_, rfl, rfl, hXY, ⟨z0, z1, z2, z3, z4, z5, z6, z7⟩, l1, l2, l3, hB⟩ := hcut
    have hz := hB.size
    have x0 := hXY.x 2 (by omega)
    have y0 := hXY.y 2 (by omega)
    have fx0 := hXY.fx
    have fy0 := hXY.fy
    clear z0 z1 z3 z4 z5 z7
    cases ls
    · cases eq
      · have hXY' := hXY.swap.setY 1
        go_upto_region 6 with (fail)
        have hB' := hB.setCell (p := ⟨bx, 2, none⟩) (by show w.heap.size ≤ bx; omega) (.int .i64 1)
        generalize wc.setCell ⟨bx, 2, none⟩ (.int .i64 1) = wd at *
        clear hXY
        have hXY := hXY'.swap
        clear hXY'
        clear x0 y0 fx0 fy0 z2 z6 hls heq hle hB hz
        go_wp2_with fail
        go_loopw [7] (fun i wr => ∃ k : Nat, k ≤ 4 ∧ i = .int .i64 k ∧ XY wr bx by_ [a1, a2, 1, a3] [b1, b2, 0, b3] ∧ Aside (cl [a1, a2, 1, a3] [b1, b2, 0, b3] 4 0 = cl [a1, a2, 1, a3] [b1, b2, 0, b3] (4 - k) k) ∧ Below w.heap.size w wr) (fun i _ => 4 - (intOf i).toNat)
        case atStart => exact ⟨0, by omega, rfl, hXY, (show Aside _ from rfl), hB'⟩
        case round =>
          clear hXY hB'
          obtain ⟨k, hk, rfl, hXY, hA, hB⟩ := hrel
          by_cases hlt : k < 4
          · have hA := hA.out
            rw [cl_step _ _ k hlt] at hA
            have r0 := hXY.x k hlt
            have r1 := hXY.y k hlt
            generalize List.getD [a1, a2, 1, a3] k 0 = p at *
            generalize List.getD [b1, b2, 0, b3] k 0 = q at *
            by_cases h1 : p < q
            · rw [if_pos h1] at hA
              have hA' := Lib.hid hA
              clear hA
              go_wp2_with fail
              go_region
              go_wp2_with fail
              go_ret
              exact ⟨by rw [hA'.out]; rfl, hB.drew⟩
            · rw [if_neg h1] at hA
              by_cases h2 : q < p
              · rw [if_pos h2] at hA
                have hA' := Lib.hid hA
                clear hA
                go_wp2_with fail
                go_region
                go_wp2_with fail
                go_region
                go_wp2_with fail
                go_ret
                exact ⟨by rw [hA'.out]; rfl, hB.drew.drew⟩
              · rw [if_neg h2] at hA
                have hA' := Lib.hid hA
                clear hA
                go_wp2_with fail
                go_region
                go_wp2_with fail
                go_region
                go_wp2_with fail
                go_roundw
                case rel => exact ⟨k + 1, by omega, by go_num, hXY.drew.drew, (show Aside _ from hA'.out), hB.drew.drew⟩
                case measure => simp [intOf]; omega
          · obtain rfl : k = 4 := by omega
            have hA' := Lib.hid hA.out
            clear hA
            go_wp2_with fail
            go_ret
            exact ⟨by rw [hA'.out]; rfl, hB⟩
      · have hB' := hB
        go_upto_region 6 with (fail)
        clear x0 y0 fx0 fy0 z2 z6 hls heq hle hB hz
        go_wp2_with fail
        go_loopw [7] (fun i wr => ∃ k : Nat, k ≤ 4 ∧ i = .int .i64 k ∧ XY wr bx by_ [a1, a2, 0, a3] [b1, b2, 0, b3] ∧ Aside (cl [a1, a2, 0, a3] [b1, b2, 0, b3] 4 0 = cl [a1, a2, 0, a3] [b1, b2, 0, b3] (4 - k) k) ∧ Below w.heap.size w wr) (fun i _ => 4 - (intOf i).toNat)
        case atStart => exact ⟨0, by omega, rfl, hXY, (show Aside _ from rfl), hB'⟩
        case round =>
          clear hXY hB'
          obtain ⟨k, hk, rfl, hXY, hA, hB⟩ := hrel
          by_cases hlt : k < 4
          · have hA := hA.out
            rw [cl_step _ _ k hlt] at hA
            have r0 := hXY.x k hlt
            have r1 := hXY.y k hlt
            generalize List.getD [a1, a2, 0, a3] k 0 = p at *
            generalize List.getD [b1, b2, 0, b3] k 0 = q at *
            by_cases h1 : p < q
            · rw [if_pos h1] at hA
              have hA' := Lib.hid hA
              clear hA
              go_wp2_with fail
              go_region
              go_wp2_with fail
              go_ret
              exact ⟨by rw [hA'.out]; rfl, hB.drew⟩
            · rw [if_neg h1] at hA
              by_cases h2 : q < p
              · rw [if_pos h2] at hA
                have hA' := Lib.hid hA
                clear hA
                go_wp2_with fail
                go_region
                go_wp2_with fail
                go_region
                go_wp2_with fail
                go_ret
                exact ⟨by rw [hA'.out]; rfl, hB.drew.drew⟩
              · rw [if_neg h2] at hA
                have hA' := Lib.hid hA
                clear hA
                go_wp2_with fail
                go_region
                go_wp2_with fail
                go_region
                go_wp2_with fail
                go_roundw
                case rel => exact ⟨k + 1, by omega, by go_num, hXY.drew.drew, (show Aside _ from hA'.out), hB.drew.drew⟩
                case measure => simp [intOf]; omega
          · obtain rfl : k = 4 := by omega
            have hA' := Lib.hid hA.out
            clear hA
            go_wp2_with fail
            go_ret
            exact ⟨by rw [hA'.out]; rfl, hB⟩
    · have hq := hle rfl
      subst hq
      · have hXY' := hXY.setY 1
        go_upto_region 6 with (fail)
        have hB' := hB.setCell (p := ⟨by_, 2, none⟩) (by show w.heap.size ≤ by_; omega) (.int .i64 1)
        generalize wc.setCell ⟨by_, 2, none⟩ (.int .i64 1) = wd at *
        clear hXY
        have hXY := hXY'
        clear hXY'
        clear x0 y0 fx0 fy0 z2 z6 hls heq hle hB hz
        go_wp2_with fail
        go_loopw [7] (fun i wr => ∃ k : Nat, k ≤ 4 ∧ i = .int .i64 k ∧ XY wr bx by_ [a1, a2, 0, a3] [b1, b2, 1, b3] ∧ Aside (cl [a1, a2, 0, a3] [b1, b2, 1, b3] 4 0 = cl [a1, a2, 0, a3] [b1, b2, 1, b3] (4 - k) k) ∧ Below w.heap.size w wr) (fun i _ => 4 - (intOf i).toNat)
        case atStart => exact ⟨0, by omega, rfl, hXY, (show Aside _ from rfl), hB'⟩
        case round =>
          clear hXY hB'
          obtain ⟨k, hk, rfl, hXY, hA, hB⟩ := hrel
          by_cases hlt : k < 4
          · have hA := hA.out
            rw [cl_step _ _ k hlt] at hA
            have r0 := hXY.x k hlt
            have r1 := hXY.y k hlt
            generalize List.getD [a1, a2, 0, a3] k 0 = p at *
            generalize List.getD [b1, b2, 1, b3] k 0 = q at *
            by_cases h1 : p < q
            · rw [if_pos h1] at hA
              have hA' := Lib.hid hA
              clear hA
              go_wp2_with fail
              go_region
              go_wp2_with fail
              go_ret
              exact ⟨by rw [hA'.out]; rfl, hB.drew⟩
            · rw [if_neg h1] at hA
              by_cases h2 : q < p
              · rw [if_pos h2] at hA
                have hA' := Lib.hid hA
                clear hA
                go_wp2_with fail
                go_region
                go_wp2_with fail
                go_region
                go_wp2_with fail
                go_ret
                exact ⟨by rw [hA'.out]; rfl, hB.drew.drew⟩
              · rw [if_neg h2] at hA
                have hA' := Lib.hid hA
                clear hA
                go_wp2_with fail
                go_region
                go_wp2_with fail
                go_region
                go_wp2_with fail
                go_roundw
                case rel => exact ⟨k + 1, by omega, by go_num, hXY.drew.drew, (show Aside _ from hA'.out), hB.drew.drew⟩
                case measure => simp [intOf]; omega
          · obtain rfl : k = 4 := by omega
            have hA' := Lib.hid hA.out
            clear hA
            go_wp2_with fail
            go_ret
            exact ⟨by rw [hA'.out]; rfl, hB⟩
end Go.Proofs.YtacoeahipklibaaDoor
