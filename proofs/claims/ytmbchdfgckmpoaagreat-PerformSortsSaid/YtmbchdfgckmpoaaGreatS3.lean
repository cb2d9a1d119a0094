/- The law's own compare computes the order of played notes. -/
import Derived.Test.YtmbchdfgckmpoaaGreatS2
namespace Go.Proofs.YtmbchdfgckmpoaaGreat
open Go.RowKit Go.Sort

theorem lexL_drop (l m : List Int) (k : Nat) (h : k < l.length) (h' : k < m.length) : lexL (l.drop k) (m.drop k) = if l.getD k 0 < m.getD k 0 then -1 else if m.getD k 0 < l.getD k 0 then 1 else lexL (l.drop (k + 1)) (m.drop (k + 1)) := by
  rw [List.drop_eq_getElem_cons h, List.drop_eq_getElem_cons h', List.getD_eq_getElem?_getD, List.getElem?_eq_getElem h, List.getD_eq_getElem?_getD, List.getElem?_eq_getElem h']
  rfl
def kth (x : Ply) (k : Nat) : Int := (keyY x).getD k 0

set_option maxHeartbeats 2000000 in
set_option maxRecDepth 20000 in
theorem compareM (x y : Ply) (w : World) : Calls Tryz.prog 10 #[yV x, yV y] w fun r w' => r = .returned (.int .i64 (cmpY x y)) ∧ Below w.heap.size w w' := by
  have hL : ∀ k, k < 7 → lexL ((keyY x).drop k) ((keyY y).drop k) = if kth x k < kth y k then -1 else if kth y k < kth x k then 1 else lexL ((keyY x).drop (k + 1)) ((keyY y).drop (k + 1)) := fun k hk => lexL_drop _ _ k hk hk
  have hE : lexL ((keyY x).drop 7) ((keyY y).drop 7) = 0 := rfl
  have h0 : cmpY x y = lexL ((keyY x).drop 0) ((keyY y).drop 0) := rfl
  have hB : Below w.heap.size w (((((w.alloc (.cells #[.int .i64 x.o, .int .i64 x.f, .int .i64 x.n, .int .i64 x.v, .int .i64 x.p, .int .i64 x.s, .int .i64 x.e] 30)).alloc (.cells #[.int .i64 y.o, .int .i64 y.f, .int .i64 y.n, .int .i64 y.v, .int .i64 y.p, .int .i64 y.s, .int .i64 y.e] 30))).alloc (.cells #[.int .i64 x.o, .int .i64 x.n, .int .i64 x.p, .int .i64 x.f, .int .i64 x.v, .int .i64 x.s, .int .i64 x.e] 3)).alloc (.cells #[.int .i64 y.o, .int .i64 y.n, .int .i64 y.p, .int .i64 y.f, .int .i64 y.v, .int .i64 y.s, .int .i64 y.e] 3)) := ((((Below.refl _ w).alloc (Nat.le_refl _) _).alloc (by simp) _).alloc (by simp; omega) _).alloc (by simp; omega) _
  have hX : ∀ k, k < 7 → (((((w.alloc (.cells #[.int .i64 x.o, .int .i64 x.f, .int .i64 x.n, .int .i64 x.v, .int .i64 x.p, .int .i64 x.s, .int .i64 x.e] 30)).alloc (.cells #[.int .i64 y.o, .int .i64 y.f, .int .i64 y.n, .int .i64 y.v, .int .i64 y.p, .int .i64 y.s, .int .i64 y.e] 30))).alloc (.cells #[.int .i64 x.o, .int .i64 x.n, .int .i64 x.p, .int .i64 x.f, .int .i64 x.v, .int .i64 x.s, .int .i64 x.e] 3)).alloc (.cells #[.int .i64 y.o, .int .i64 y.n, .int .i64 y.p, .int .i64 y.f, .int .i64 y.v, .int .i64 y.s, .int .i64 y.e] 3)).cell? ⟨w.heap.size + 1 + 1, k, none⟩ = some (.int .i64 (kth x k)) := fun k hk => by
    obtain rfl | rfl | rfl | rfl | rfl | rfl | rfl : k = 0 ∨ k = 1 ∨ k = 2 ∨ k = 3 ∨ k = 4 ∨ k = 5 ∨ k = 6 := by omega
    all_goals simp [go_sem, kth, keyY]
  have hY : ∀ k, k < 7 → (((((w.alloc (.cells #[.int .i64 x.o, .int .i64 x.f, .int .i64 x.n, .int .i64 x.v, .int .i64 x.p, .int .i64 x.s, .int .i64 x.e] 30)).alloc (.cells #[.int .i64 y.o, .int .i64 y.f, .int .i64 y.n, .int .i64 y.v, .int .i64 y.p, .int .i64 y.s, .int .i64 y.e] 30))).alloc (.cells #[.int .i64 x.o, .int .i64 x.n, .int .i64 x.p, .int .i64 x.f, .int .i64 x.v, .int .i64 x.s, .int .i64 x.e] 3)).alloc (.cells #[.int .i64 y.o, .int .i64 y.n, .int .i64 y.p, .int .i64 y.f, .int .i64 y.v, .int .i64 y.s, .int .i64 y.e] 3)).cell? ⟨w.heap.size + 1 + 1 + 1, k, none⟩ = some (.int .i64 (kth y k)) := fun k hk => by
    obtain rfl | rfl | rfl | rfl | rfl | rfl | rfl : k = 0 ∨ k = 1 ∨ k = 2 ∨ k = 3 ∨ k = 4 ∨ k = 5 ∨ k = 6 := by omega
    all_goals simp [go_sem, kth, keyY]
  have hS : w.heap.size + 3 < (((((w.alloc (.cells #[.int .i64 x.o, .int .i64 x.f, .int .i64 x.n, .int .i64 x.v, .int .i64 x.p, .int .i64 x.s, .int .i64 x.e] 30)).alloc (.cells #[.int .i64 y.o, .int .i64 y.f, .int .i64 y.n, .int .i64 y.v, .int .i64 y.p, .int .i64 y.s, .int .i64 y.e] 30))).alloc (.cells #[.int .i64 x.o, .int .i64 x.n, .int .i64 x.p, .int .i64 x.f, .int .i64 x.v, .int .i64 x.s, .int .i64 x.e] 3)).alloc (.cells #[.int .i64 y.o, .int .i64 y.n, .int .i64 y.p, .int .i64 y.f, .int .i64 y.v, .int .i64 y.s, .int .i64 y.e] 3)).heap.size := by simp
  rw [h0]
  clear h0
  go_enter Tryz.func10, Tryz.ntmps10
  go_upto_block 0 with (fail)
  generalize (((((w.alloc (.cells #[.int .i64 x.o, .int .i64 x.f, .int .i64 x.n, .int .i64 x.v, .int .i64 x.p, .int .i64 x.s, .int .i64 x.e] 30)).alloc (.cells #[.int .i64 y.o, .int .i64 y.f, .int .i64 y.n, .int .i64 y.v, .int .i64 y.p, .int .i64 y.s, .int .i64 y.e] 30))).alloc (.cells #[.int .i64 x.o, .int .i64 x.n, .int .i64 x.p, .int .i64 x.f, .int .i64 x.v, .int .i64 x.s, .int .i64 x.e] 3)).alloc (.cells #[.int .i64 y.o, .int .i64 y.n, .int .i64 y.p, .int .i64 y.f, .int .i64 y.v, .int .i64 y.s, .int .i64 y.e] 3)) = V at *
  generalize kth x = X at *
  generalize kth y = Y at *
  go_wp2_with fail
  go_loopw [7] (fun i wr => ∃ k : Nat, k ≤ 7 ∧ i = .int .i64 k ∧ Aside (lexL ((keyY x).drop 0) ((keyY y).drop 0) = lexL ((keyY x).drop k) ((keyY y).drop k)) ∧ Below V.heap.size V wr) (fun i _ => 7 - (intOf i).toNat)
  case atStart => exact ⟨0, by omega, rfl, (show Aside _ from rfl), Below.refl _ _⟩
  case round =>
    obtain ⟨k, hk, rfl, hA, hr⟩ := hrel
    by_cases hlt : k < 7
    · have c1 := (hr.cell (p := ⟨w.heap.size + 1 + 1, k, none⟩) (by simp; omega)).trans (hX k hlt)
      have c2 := (hr.cell (p := ⟨w.heap.size + 1 + 1 + 1, k, none⟩) (by simp; omega)).trans (hY k hlt)
      have hA := hA.out
      rw [hL k hlt] at hA
      have hW := hB.trans (hr.mono (by omega))
      clear hL hE hX hY
      generalize X k = a at *
      generalize Y k = b at *
      by_cases g1 : a < b
      · rw [if_pos g1] at hA
        have hA' := Lib.hid hA
        clear hA
        go_wp2_with fail
        go_region
        go_wp2_with fail
        go_ret
        exact ⟨by rw [hA'.out]; rfl, hW.drew⟩
      · by_cases g2 : b < a
        · rw [if_neg g1, if_pos g2] at hA
          have hA' := Lib.hid hA
          clear hA
          go_wp2_with fail
          go_region
          go_wp2_with fail
          go_region
          go_wp2_with fail
          go_ret
          exact ⟨by rw [hA'.out]; rfl, hW.drew.drew⟩
        · rw [if_neg g1, if_neg g2] at hA
          have hA' := Lib.hid hA
          clear hA
          go_wp2_with fail
          go_region
          go_wp2_with fail
          go_region
          go_wp2_with fail
          go_roundw
          case rel => exact ⟨k + 1, by omega, by go_num, (show Aside _ from hA'.out), hr.drew.drew⟩
          case measure => simp [intOf]; omega
    · obtain rfl : k = 7 := by omega
      have hA := hA.out
      rw [hE] at hA
      have hA' := Lib.hid hA
      have hW := hB.trans (hr.mono (by omega))
      clear hA hL hE hX hY
      go_wp2_with fail
      go_ret
      exact ⟨by rw [hA'.out]; rfl, hW⟩
end Go.Proofs.YtmbchdfgckmpoaaGreat
