/- perform.Compare computes the order of played notes. -/
import Derived.Test.YtmbchdfgckmpoaaGreatS1
import Derived.Test.YtmbchdfgckmpoaaGreatB4
import Derived.StillTailTactics
import Derived.BigRegion
namespace Go.Proofs.YtmbchdfgckmpoaaGreat
open Go.RowKit Go.Sort

/-- The first number that is not zero. -/
def firstNZ : List Int → Int
  | [] => 0
  | x :: l => if x = 0 then firstNZ l else x
theorem firstNZ_drop (l : List Int) (k : Nat) (h : k < l.length) : firstNZ (l.drop k) = if l.getD k 0 = 0 then firstNZ (l.drop (k + 1)) else l.getD k 0 := by
  rw [List.drop_eq_getElem_cons h, List.getD_eq_getElem?_getD, List.getElem?_eq_getElem h]
  rfl
set_option maxHeartbeats 1000000 in
theorem orC (b : Nat) (l : List Int) (w : World) (hl : l.length ≤ 1000) (h : ∀ k, k < l.length → w.cell? ⟨b, k, none⟩ = some (.int .i64 (l.getD k 0))) :
    Calls Tryz.prog 21 #[.slice (some ⟨b, 0, none⟩) l.length l.length] w fun e w' => e = .returned (.int .i64 (firstNZ l)) ∧ w' = w := by
  generalize hn : l.length = n at *
  go_enter Tryz.func21, Tryz.ntmps21
  go_wp2_with fail
  go_loop [8] (fun i => ∃ k : Nat, k ≤ n ∧ i = .int .i64 k ∧ Aside (firstNZ l = firstNZ (l.drop k))) (fun i => n - (intOf i).toNat)
  case atStart => exact ⟨0, by omega, rfl, (show Aside _ from rfl)⟩
  case round =>
    obtain ⟨k, hk, rfl, hA⟩ := hrel
    by_cases hlt : k < n
    · have r0 := h k hlt
      have hd := firstNZ_drop l k (by omega)
      have hA := hA.out
      rw [hd] at hA
      clear hd h
      generalize l.getD k 0 = z at *
      by_cases hz : z = 0
      · subst hz
        rw [if_pos rfl] at hA
        have hA := Lib.hid hA
        go_wp2_with fail
        go_round
        case rel => exact ⟨k + 1, by omega, by go_num, (show Aside _ from hA.out)⟩
        case measure => simp [intOf]; omega
      · rw [if_neg hz] at hA
        have hA' := Lib.hid hA
        clear hA
        have e1 : (z != 0) = true := by simpa using hz
        go_wp2_with fail
        go_ret
        exact ⟨by rw [hA'.out]; rfl, rfl⟩
    · obtain rfl : k = n := by omega
      have hA := Lib.hid hA.out
      go_wp2_with fail
      go_ret
      exact ⟨by rw [hA.out, List.drop_eq_nil_of_le (by omega)]; rfl, rfl⟩


theorem firstNZ_lex : ∀ (l m : List Int), l.length = m.length → firstNZ (List.zipWith cmpI l m) = lexL l m
  | [], [], _ => rfl
  | [], _ :: _, h => by simp at h
  | _ :: _, [], h => by simp at h
  | a :: l, b :: m, h => by
    have ih := firstNZ_lex l m (by simpa using h)
    show (if cmpI a b = 0 then firstNZ (List.zipWith cmpI l m) else cmpI a b) = _
    unfold lexL
    rw [ih]
    unfold cmpI
    by_cases h1 : a < b
    · rw [if_pos h1, if_pos h1, if_neg (by omega)]
    · by_cases h2 : b < a
      · rw [if_neg h1, if_neg h1, if_pos h2, if_pos h2, if_neg (by omega)]
      · rw [if_neg h1, if_neg h1, if_neg h2, if_neg h2, if_pos rfl]
theorem firstNZ_cmpY (x y : Ply) : firstNZ [cmpI x.o y.o, cmpI x.n y.n, cmpI x.p y.p, cmpI x.f y.f, cmpI x.v y.v, cmpI x.s y.s, cmpI x.e y.e] = cmpY x y := firstNZ_lex (keyY x) (keyY y) rfl

set_option maxHeartbeats 2000000 in
set_option maxRecDepth 20000 in
theorem compareC (x y : Ply) (w : World) : Calls Tryz.prog 9 #[yV x, yV y] w fun r w' => r = .returned (.int .i64 (cmpY x y)) ∧ Below w.heap.size w w' := by
  have hB : Below w.heap.size w ((w.alloc (.cells #[.int .i64 x.o, .int .i64 x.f, .int .i64 x.n, .int .i64 x.v, .int .i64 x.p, .int .i64 x.s, .int .i64 x.e] 30)).alloc (.cells #[.int .i64 y.o, .int .i64 y.f, .int .i64 y.n, .int .i64 y.v, .int .i64 y.p, .int .i64 y.s, .int .i64 y.e] 30)) := ((Below.refl _ w).alloc (Nat.le_refl _) _).alloc (by simp) _
  have hor : ∀ (e0 e1 e2 e3 e4 e5 e6 : Int) (w : World), Calls Tryz.prog 21 #[.slice (some ⟨w.heap.size, 0, none⟩) 7 7] (w.alloc (.cells #[.int .i64 e0, .int .i64 e1, .int .i64 e2, .int .i64 e3, .int .i64 e4, .int .i64 e5, .int .i64 e6] 3)) fun e w' => e = .returned (.int .i64 (firstNZ [e0, e1, e2, e3, e4, e5, e6])) ∧ w' = w.alloc (.cells #[.int .i64 e0, .int .i64 e1, .int .i64 e2, .int .i64 e3, .int .i64 e4, .int .i64 e5, .int .i64 e6] 3) := fun e0 e1 e2 e3 e4 e5 e6 w => by
    refine orC w.heap.size [e0, e1, e2, e3, e4, e5, e6] _ (by simp) fun k hk => ?_
    simp only [List.length_cons, List.length_nil] at hk
    obtain rfl | rfl | rfl | rfl | rfl | rfl | rfl : k = 0 ∨ k = 1 ∨ k = 2 ∨ k = 3 ∨ k = 4 ∨ k = 5 ∨ k = 6 := by omega
    all_goals simp [go_sem]
  have hF := firstNZ_cmpY x y
  have k0 := cmpC x.o y.o
  have k1 := cmpC x.n y.n
  have k2 := cmpC x.p y.p
  have k3 := cmpC x.f y.f
  have k4 := cmpC x.v y.v
  have k5 := cmpC x.s y.s
  have k6 := cmpC x.e y.e
  generalize cmpI x.o y.o = e0 at *
  generalize cmpI x.n y.n = e1 at *
  generalize cmpI x.p y.p = e2 at *
  generalize cmpI x.f y.f = e3 at *
  generalize cmpI x.v y.v = e4 at *
  generalize cmpI x.s y.s = e5 at *
  generalize cmpI x.e y.e = e6 at *
  rw [← hF]
  clear hF
  go_enter Tryz.func9, Tryz.ntmps9
  go_upto_region 1 with (fail)
  have y0 : ∀ k (v : Value), #[Value.int .i64 x.o, .int .i64 x.f, .int .i64 x.n, .int .i64 x.v, .int .i64 x.p, .int .i64 x.s, .int .i64 x.e][k]? = some v → ((w.alloc (.cells #[.int .i64 x.o, .int .i64 x.f, .int .i64 x.n, .int .i64 x.v, .int .i64 x.p, .int .i64 x.s, .int .i64 x.e] 30)).alloc (.cells #[.int .i64 y.o, .int .i64 y.f, .int .i64 y.n, .int .i64 y.v, .int .i64 y.p, .int .i64 y.s, .int .i64 y.e] 30)).cell? ⟨w.heap.size, k, none⟩ = some v := fun k v hk => by simp [go_sem, hk]
  have y1 : ∀ k (v : Value), #[Value.int .i64 y.o, .int .i64 y.f, .int .i64 y.n, .int .i64 y.v, .int .i64 y.p, .int .i64 y.s, .int .i64 y.e][k]? = some v → ((w.alloc (.cells #[.int .i64 x.o, .int .i64 x.f, .int .i64 x.n, .int .i64 x.v, .int .i64 x.p, .int .i64 x.s, .int .i64 x.e] 30)).alloc (.cells #[.int .i64 y.o, .int .i64 y.f, .int .i64 y.n, .int .i64 y.v, .int .i64 y.p, .int .i64 y.s, .int .i64 y.e] 30)).cell? ⟨w.heap.size + 1, k, none⟩ = some v := fun k v hk => by simp [go_sem, hk]
  have z0 := y0 0 _ rfl
  have q0 := y1 0 _ rfl
  have z1 := y0 1 _ rfl
  have q1 := y1 1 _ rfl
  have z2 := y0 2 _ rfl
  have q2 := y1 2 _ rfl
  have z3 := y0 3 _ rfl
  have q3 := y1 3 _ rfl
  have z4 := y0 4 _ rfl
  have q4 := y1 4 _ rfl
  have z5 := y0 5 _ rfl
  have q5 := y1 5 _ rfl
  have z6 := y0 6 _ rfl
  have q6 := y1 6 _ rfl
  clear y0 y1
  generalize ((w.alloc (.cells #[.int .i64 x.o, .int .i64 x.f, .int .i64 x.n, .int .i64 x.v, .int .i64 x.p, .int .i64 x.s, .int .i64 x.e] 30)).alloc (.cells #[.int .i64 y.o, .int .i64 y.f, .int .i64 y.n, .int .i64 y.v, .int .i64 y.p, .int .i64 y.s, .int .i64 y.e] 30)) = v at *
  refine wp_region_still_tail 39 (by kernel_rfl) (by kernel_rfl) ?_
  simp only [List.take_succ_cons, List.take_zero, List.drop_succ_cons, List.drop_zero]
  repeat (first | still_step | (refine wpStill_step (fun K hK => ?_); go_simp; (first | (with_reducible refine ⟨_, k0 _, hK _ ?_⟩) | (with_reducible refine ⟨_, k1 _, hK _ ?_⟩) | (with_reducible refine ⟨_, k2 _, hK _ ?_⟩) | (with_reducible refine ⟨_, k3 _, hK _ ?_⟩) | (with_reducible refine ⟨_, k4 _, hK _ ?_⟩) | (with_reducible refine ⟨_, k5 _, hK _ ?_⟩) | (with_reducible refine ⟨_, k6 _, hK _ ?_⟩)); clear hK K))
  try refine wpStill_nil ?_
  change wpList _ _ _ _ _ v.drew
  have hB := hB.drew
  generalize v.drew = v2 at *
  clear z0 z1 z2 z3 z4 z5 z6 q0 q1 q2 q3 q4 q5 q6
  go_wp2_with fail
  refine (hor e0 e1 e2 e3 e4 e5 e6 v2).mono ?_
  rintro e w9 ⟨rfl, rfl⟩
  go_wp2_with fail
  go_ret
  exact ⟨rfl, hB.alloc hB.size _⟩
end Go.Proofs.YtmbchdfgckmpoaaGreat
