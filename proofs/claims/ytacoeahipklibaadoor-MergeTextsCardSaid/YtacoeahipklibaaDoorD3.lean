/- How conflicts are ordered, in the program and in the model. -/
import Derived.Test.YtacoeahipklibaaDoorD2
import Derived.StillTailTactics
import Derived.BigRegion
namespace Go.Proofs.YtacoeahipklibaaDoor
open Go.RowKit Go.Sort

def sgn (a b : Bool) : Int := if a then -1 else if b then 1 else 0
def cmpI (a b : Int) : Int := sgn (decide (a < b)) (decide (b < a))
def less (a b : ByteArray) : Bool := Op.bytesLess a.toList b.toList
def cmpS (a b : ByteArray) : Int := sgn (less a b) (!(a.toList == b.toList))
theorem compareInt_eq (a b : Int) : Lib.compareInt a b = cmpI a b := by
  unfold Lib.compareInt cmpI sgn
  by_cases h1 : a < b <;> by_cases h2 : b < a <;> simp [h1, h2]

theorem isNaNs (s : ByteArray) (w : World) : Calls Tryd.prog 30 #[.string s] w fun e w' => e = .returned (.bool false) ∧ w' = w := by
  go_enter Tryd.func30, Tryd.ntmps30
  go_wp2
  go_ret
  exact ⟨rfl, rfl⟩
theorem compareStr (a b : ByteArray) (w : World) : Calls Tryd.prog 24 #[.string a, .string b] w fun e w' => e = .returned (.int .i64 (cmpS a b)) ∧ w' = w := by
  unfold cmpS less
  cases h1 : Op.bytesLess a.toList b.toList
  · cases h2 : (a.toList == b.toList)
    all_goals
      go_enter Tryd.func24, Tryd.ntmps24
      go_wp2_with (go_at_call 30; refine (isNaNs _ _).mono ?_; rintro e w' ⟨rfl, rfl⟩)
      go_ret
      exact ⟨rfl, rfl⟩
  · go_enter Tryd.func24, Tryd.ntmps24
    go_wp2_with (go_at_call 30; refine (isNaNs _ _).mono ?_; rintro e w' ⟨rfl, rfl⟩)
    go_ret
    exact ⟨rfl, rfl⟩

/-- The first number that is not zero. -/
def firstNZ : List Int → Int
  | [] => 0
  | x :: l => if x = 0 then firstNZ l else x
theorem firstNZ_drop (l : List Int) (k : Nat) (h : k < l.length) : firstNZ (l.drop k) = if l.getD k 0 = 0 then firstNZ (l.drop (k + 1)) else l.getD k 0 := by
  rw [List.drop_eq_getElem_cons h, List.getD_eq_getElem?_getD, List.getElem?_eq_getElem h]
  rfl
set_option maxHeartbeats 1000000 in
theorem orC (b : Nat) (l : List Int) (w : World) (hl : l.length ≤ 1000) (h : ∀ k, k < l.length → w.cell? ⟨b, k, none⟩ = some (.int .i64 (l.getD k 0))) :
    Calls Tryd.prog 22 #[.slice (some ⟨b, 0, none⟩) l.length l.length] w fun e w' => e = .returned (.int .i64 (firstNZ l)) ∧ w' = w := by
  generalize hn : l.length = n at *
  go_enter Tryd.func22, Tryd.ntmps22
  go_wp2_with fail
  go_loop [8] (fun i => ∃ k : Nat, k ≤ n ∧ i = .int .i64 k ∧ Aside (firstNZ l = firstNZ (l.drop k))) (fun i => n - (intOf i).toNat)
  case atStart => exact ⟨0, by omega, rfl, (show Aside _ from rfl)⟩
  case round =>
    obtain ⟨k, hk, rfl, hA⟩ := hrel
    by_cases hlt : k < n
    · have r0 := h k hlt
      have hd := firstNZ_drop l k (by omega)
      have hA := hA.out
      rw [hd] at hA
      clear hd h
      generalize l.getD k 0 = z at *
      by_cases hz : z = 0
      · subst hz
        rw [if_pos rfl] at hA
        have hA := Lib.hid hA
        go_wp2_with fail
        go_round
        case rel => exact ⟨k + 1, by omega, by go_num, (show Aside _ from hA.out)⟩
        case measure => simp [intOf]; omega
      · rw [if_neg hz] at hA
        have hA' := Lib.hid hA
        clear hA
        have e1 : (z != 0) = true := by simpa using hz
        go_wp2_with fail
        go_ret
        exact ⟨by rw [hA'.out]; rfl, rfl⟩
    · obtain rfl : k = n := by omega
      have hA := Lib.hid hA.out
      go_wp2_with fail
      go_ret
      exact ⟨by rw [hA.out, List.drop_eq_nil_of_le (by omega)]; rfl, rfl⟩

set_option maxHeartbeats 400000 in
theorem compareP (a1 a2 a3 b1 b2 b3 : Int) (A B : ByteArray) (w : World) :
    Calls Tryd.prog 12 #[.agg #[.int .i64 a1, .int .i64 a2, .string A, .int .i64 a3], .agg #[.int .i64 b1, .int .i64 b2, .string B, .int .i64 b3]] w fun e w' => e = .returned (.int .i64 (firstNZ [cmpI a1 b1, cmpI a2 b2, cmpS A B, cmpI a3 b3])) ∧ Below w.heap.size w w' := by
  have hB : Below w.heap.size w ((w.alloc (.cells #[.int .i64 a1, .int .i64 a2, .string A, .int .i64 a3] 32)).alloc (.cells #[.int .i64 b1, .int .i64 b2, .string B, .int .i64 b3] 32)) := ((Below.refl _ w).alloc (Nat.le_refl _) _).alloc (by simp) _
  have c1 : ∀ x y w, Calls Tryd.prog 23 #[.int .i64 x, .int .i64 y] w fun e w' => e = .returned (.int .i64 (cmpI x y)) ∧ w' = w := fun x y w => by rw [← compareInt_eq]; exact Tryd.cmp_Compare_int x y w
  have hor : ∀ (c1 c2 c3 c4 : Int) (w : World), Calls Tryd.prog 22 #[.slice (some ⟨w.heap.size, 0, none⟩) 4 4] (w.alloc (.cells #[.int .i64 c1, .int .i64 c2, .int .i64 c3, .int .i64 c4] 3)) fun e w' => e = .returned (.int .i64 (firstNZ [c1, c2, c3, c4])) ∧ w' = w.alloc (.cells #[.int .i64 c1, .int .i64 c2, .int .i64 c3, .int .i64 c4] 3) := fun c1 c2 c3 c4 w => by
    refine orC w.heap.size [c1, c2, c3, c4] _ (by simp) fun k hk => ?_
    simp only [List.length_cons, List.length_nil] at hk
    obtain rfl | rfl | rfl | rfl : k = 0 ∨ k = 1 ∨ k = 2 ∨ k = 3 := by omega
    all_goals simp [go_sem]
  have k1 := c1 a1 b1
  have k2 := c1 a2 b2
  have k3 := compareStr A B
  have k4 := c1 a3 b3
  clear c1
  generalize cmpI a1 b1 = e1 at *
  generalize cmpI a2 b2 = e2 at *
  generalize cmpS A B = e3 at *
  generalize cmpI a3 b3 = e4 at *
  go_enter Tryd.func12, Tryd.ntmps12
  go_upto_region 1 with (fail)
  have y0 : ∀ k (v : Value), #[Value.int .i64 a1, .int .i64 a2, .string A, .int .i64 a3][k]? = some v → ((w.alloc (.cells #[.int .i64 a1, .int .i64 a2, .string A, .int .i64 a3] 32)).alloc (.cells #[.int .i64 b1, .int .i64 b2, .string B, .int .i64 b3] 32)).cell? ⟨w.heap.size, k, none⟩ = some v := fun k v hk => by simp [go_sem, hk]
  have y1 : ∀ k (v : Value), #[Value.int .i64 b1, .int .i64 b2, .string B, .int .i64 b3][k]? = some v → ((w.alloc (.cells #[.int .i64 a1, .int .i64 a2, .string A, .int .i64 a3] 32)).alloc (.cells #[.int .i64 b1, .int .i64 b2, .string B, .int .i64 b3] 32)).cell? ⟨w.heap.size + 1, k, none⟩ = some v := fun k v hk => by simp [go_sem, hk]
  have z0 := y0 0 _ rfl
  have z1 := y0 1 _ rfl
  have z2 := y0 2 _ rfl
  have z3 := y0 3 _ rfl
  have z4 := y1 0 _ rfl
  have z5 := y1 1 _ rfl
  have z6 := y1 2 _ rfl
  have z7 := y1 3 _ rfl
  clear y0 y1
  generalize (w.alloc (.cells #[.int .i64 a1, .int .i64 a2, .string A, .int .i64 a3] 32)).alloc (.cells #[.int .i64 b1, .int .i64 b2, .string B, .int .i64 b3] 32) = v at *
  refine wp_region_still_tail 24 (by kernel_rfl) (by kernel_rfl) ?_
  simp only [List.take_succ_cons, List.take_zero, List.drop_succ_cons, List.drop_zero]
  repeat (first | still_step | (refine wpStill_step (fun K hK => ?_); go_simp; (first | (with_reducible refine ⟨_, k1 _, hK _ ?_⟩) | (with_reducible refine ⟨_, k2 _, hK _ ?_⟩) | (with_reducible refine ⟨_, k3 _, hK _ ?_⟩) | (with_reducible refine ⟨_, k4 _, hK _ ?_⟩)); clear hK K))
  try refine wpStill_nil ?_
  change wpList _ _ _ _ _ v.drew
  have hB := hB.drew
  generalize v.drew = v2 at *
  clear z0 z1 z2 z3 z4 z5 z6 z7
  go_wp2_with fail
  refine (hor e1 e2 e3 e4 v2).mono ?_
  rintro e w9 ⟨rfl, rfl⟩
  go_wp2_with fail
  go_ret
  exact ⟨rfl, hB.alloc hB.size _⟩
end Go.Proofs.YtacoeahipklibaaDoor
