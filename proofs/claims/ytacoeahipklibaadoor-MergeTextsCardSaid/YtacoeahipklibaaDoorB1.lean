/- Lists of ids in memory; where an id is: index, slices.Index, slices.Contains. -/
import Derived.Test.YtacoeahipklibaaDoorProg
import Derived.Test.YtacoeahipklibaaDoorP1
import Derived.Test.YtacoeahipklibaaDoorRel
import Derived.WalkKit
import Derived.WalkSpells
import Derived.WalkLawsBesides
import Derived.Handy
import Derived.Lib.Hide
import Derived.Deep.DeepCutAuto
import Derived.Deep.CutBlock
import Derived.Deep.AppendLies
import Derived.Deep.RegionHeld3
import Derived.RegionTactic
import Derived.ChangeAlike
import Derived.Deep.QuietTactic
import Derived.BigQuiet
namespace Go.Proofs.YtacoeahipklibaaDoor
open Go.RowKit

def encId (x : Id) : List Value := [.int .i64 x.s, .int .i64 x.n]
abbrev idV (x : Id) : Value := .agg #[.int .i64 x.s, .int .i64 x.n]
theorem idNe {x y : Id} (h : x ≠ y) : x.s ≠ y.s ∨ (x.s = y.s ∧ x.n ≠ y.n) := by
  obtain ⟨a, b, _, _⟩ := x
  obtain ⟨c, d, _, _⟩ := y
  simp only [ne_eq, Id.mk.injEq] at h
  simp only
  omega

/-- From an offset of a block on lie these ids. -/
def RdI (w : World) (b off : Nat) (l : List Id) : Prop := ∀ k, k < l.length →
    w.cell? ⟨b, off + k * 2, none⟩ = some (.int .i64 (ith l k).s) ∧ w.cell? ⟨b, off + k * 2 + 1, none⟩ = some (.int .i64 (ith l k).n)
theorem RdI.below {w w' : World} {B b off : Nat} {l : List Id} (h : RdI w b off l) (hb : Below B w w') (hB : b < B) : RdI w' b off l := by
  intro k hk
  obtain ⟨h1, h2⟩ := h k hk
  exact ⟨(hb.cell (p := ⟨b, _, none⟩) hB).trans h1, (hb.cell (p := ⟨b, _, none⟩) hB).trans h2⟩
/-- A slice of these ids. -/
def SlI (w : World) (A : Option Addr) (l : List Id) : Prop := l = [] ∨ (0 < l.length ∧ ∃ b off, A = some ⟨b, off, none⟩ ∧ b < w.heap.size ∧ RdI w b off l)
theorem SlI.below {w w' : World} {A : Option Addr} {l : List Id} (h : SlI w A l) (hb : Below w.heap.size w w') : SlI w' A l := by
  rcases h with h | ⟨h0, b, off, rfl, hl, hr⟩
  · exact .inl h
  · exact .inr ⟨h0, b, off, rfl, Nat.lt_of_lt_of_le hl hb.size, hr.below hb hl⟩

theorem index0 (A : Option Addr) (c : Nat) (x : Id) (w : World) :
    Calls Tryd.prog 11 #[.slice A 0 c, idV x] w fun r w' => r = .returned (.int .i64 (-1)) ∧ Below w.heap.size w w' := by
  go_enter Tryd.func11, Tryd.ntmps11
  go_wp2_with fail
  go_loopw [5] (fun i wr => i = .int .i64 0 ∧ Below w.heap.size w wr) (fun _ _ => 0)
  case atStart => exact ⟨rfl, (Below.refl _ w).alloc (Nat.le_refl _) _⟩
  case round =>
    obtain ⟨rfl, hb⟩ := hrel
    go_wp2_with fail
    go_ret
    exact ⟨rfl, hb⟩

set_option maxHeartbeats 2000000 in
theorem index1 (b off c : Nat) (l : List Id) (x : Id) (w : World) (hl : l.length ≤ 1000) (hb : b < w.heap.size) (h : RdI w b off l) :
    Calls Tryd.prog 11 #[.slice (some ⟨b, off, none⟩) l.length c, idV x] w fun r w' => r = .returned (.int .i64 (idx l x)) ∧ Below w.heap.size w w' := by
  generalize hn : l.length = n at *
  go_enter Tryd.func11, Tryd.ntmps11
  go_wp2_with fail
  go_loopw [5] (fun i wr => ∃ k : Nat, k ≤ n ∧ i = .int .i64 k ∧ Aside (∀ j, j < k → ith l j ≠ x) ∧ Below w.heap.size w wr ∧ wr.cell? ⟨w.heap.size, 0, none⟩ = some (.int .i64 x.s) ∧ wr.cell? ⟨w.heap.size, 1, none⟩ = some (.int .i64 x.n)) (fun i _ => n - (intOf i).toNat)
  case atStart => exact ⟨0, by omega, rfl, (show Aside _ from fun j hj => absurd hj (Nat.not_lt_zero _)), (Below.refl _ w).alloc (Nat.le_refl _) _, by simp [go_sem], by simp [go_sem]⟩
  case round =>
    obtain ⟨k, hk, rfl, hA, hB, x0, x1⟩ := hrel
    by_cases hlt : k < n
    · obtain ⟨r0, r1⟩ := h.below hB hb k (by omega)
      by_cases he : ith l k = x
      · have hR : Aside (idx l x = k) := (show Aside _ from idx_hit (by omega) he hA.out)
        rw [he] at r0 r1
        clear he hA
        go_wp2_with fail
        go_region
        go_wp2_with fail
        go_ret
        exact ⟨by rw [hR.out]; rfl, hB.drew⟩
      · have hA2 : Aside (∀ j, j < k + 1 → ith l j ≠ x) := (show Aside _ from fun j hj => by
          by_cases hjk : j = k
          · subst hjk; exact he
          · exact hA.out j (by omega))
        have d := idNe he
        clear he hA
        generalize ith l k = y at *
        rcases d with d1 | ⟨d1, d2⟩
        all_goals
          go_wp2_with fail
          go_region
          go_wp2_with fail
          go_roundw
          case rel => exact ⟨k + 1, by omega, by go_num, hA2, hB.drew, x0, x1⟩
          case measure => simp [intOf]; omega
    · obtain rfl : k = n := by omega
      go_wp2_with fail
      go_ret
      exact ⟨by rw [idx_miss (fun j hj => hA.out j (by omega))]; rfl, hB⟩
theorem sindex0 (A : Option Addr) (c : Nat) (x : Id) (w : World) :
    Calls Tryd.prog 19 #[.slice A 0 c, idV x] w fun r w' => r = .returned (.int .i64 (-1)) ∧ Below w.heap.size w w' := by
  go_enter Tryd.func19, Tryd.ntmps19
  go_wp2_with fail
  go_loopw [8] (fun i wr => i = .int .i64 0 ∧ Below w.heap.size w wr) (fun _ _ => 0)
  case atStart => exact ⟨rfl, (Below.refl _ w).alloc (Nat.le_refl _) _⟩
  case round =>
    obtain ⟨rfl, hb⟩ := hrel
    go_wp2_with fail
    go_ret
    exact ⟨rfl, hb⟩

set_option maxHeartbeats 2000000 in
theorem sindex1 (b off c : Nat) (l : List Id) (x : Id) (w : World) (hl : l.length ≤ 1000) (hb : b < w.heap.size) (h : RdI w b off l) :
    Calls Tryd.prog 19 #[.slice (some ⟨b, off, none⟩) l.length c, idV x] w fun r w' => r = .returned (.int .i64 (idx l x)) ∧ Below w.heap.size w w' := by
  generalize hn : l.length = n at *
  go_enter Tryd.func19, Tryd.ntmps19
  go_wp2_with fail
  go_loopw [8] (fun i wr => ∃ k : Nat, k ≤ n ∧ i = .int .i64 k ∧ Aside (∀ j, j < k → ith l j ≠ x) ∧ Below w.heap.size w wr ∧ wr.cell? ⟨w.heap.size, 0, none⟩ = some (.int .i64 x.s) ∧ wr.cell? ⟨w.heap.size, 1, none⟩ = some (.int .i64 x.n)) (fun i _ => n - (intOf i).toNat)
  case atStart => exact ⟨0, by omega, rfl, (show Aside _ from fun j hj => absurd hj (Nat.not_lt_zero _)), (Below.refl _ w).alloc (Nat.le_refl _) _, by simp [go_sem], by simp [go_sem]⟩
  case round =>
    obtain ⟨k, hk, rfl, hA, hB, x0, x1⟩ := hrel
    by_cases hlt : k < n
    · obtain ⟨r0, r1⟩ := h.below hB hb k (by omega)
      by_cases he : ith l k = x
      · have hR : Aside (idx l x = k) := (show Aside _ from idx_hit (by omega) he hA.out)
        rw [he] at r0 r1
        clear he hA
        go_wp2_with fail
        go_region
        go_wp2_with fail
        go_ret
        exact ⟨by rw [hR.out]; rfl, hB.drew⟩
      · have hA2 : Aside (∀ j, j < k + 1 → ith l j ≠ x) := (show Aside _ from fun j hj => by
          by_cases hjk : j = k
          · subst hjk; exact he
          · exact hA.out j (by omega))
        have d := idNe he
        clear he hA
        generalize ith l k = y at *
        rcases d with d1 | ⟨d1, d2⟩
        all_goals
          go_wp2_with fail
          go_region
          go_wp2_with fail
          go_roundw
          case rel => exact ⟨k + 1, by omega, by go_num, hA2, hB.drew, x0, x1⟩
          case measure => simp [intOf]; omega
    · obtain rfl : k = n := by omega
      go_wp2_with fail
      go_ret
      exact ⟨by rw [idx_miss (fun j hj => hA.out j (by omega))]; rfl, hB⟩

theorem indexC (A : Option Addr) (c : Nat) (l : List Id) (x : Id) (w : World) (hl : l.length ≤ 1000) (h : SlI w A l) :
    Calls Tryd.prog 11 #[.slice A l.length c, idV x] w fun r w' => r = .returned (.int .i64 (idx l x)) ∧ Below w.heap.size w w' := by
  rcases h with rfl | ⟨h0, b, off, rfl, hb, hr⟩
  · exact index0 A c x w
  · exact index1 b off c l x w hl hb hr
theorem sindexC (A : Option Addr) (c : Nat) (l : List Id) (x : Id) (w : World) (hl : l.length ≤ 1000) (h : SlI w A l) :
    Calls Tryd.prog 19 #[.slice A l.length c, idV x] w fun r w' => r = .returned (.int .i64 (idx l x)) ∧ Below w.heap.size w w' := by
  rcases h with rfl | ⟨h0, b, off, rfl, hb, hr⟩
  · exact sindex0 A c x w
  · exact sindex1 b off c l x w hl hb hr
theorem containsC (A : Option Addr) (c : Nat) (l : List Id) (x : Id) (w : World) (hl : l.length ≤ 1000) (h : SlI w A l) :
    Calls Tryd.prog 18 #[.slice A l.length c, idV x] w fun r w' => r = .returned (.bool (decide (x ∈ l))) ∧ Below w.heap.size w w' := by
  have hb := (Below.refl _ w).alloc (Nat.le_refl _) (.cells #[.int .i64 x.s, .int .i64 x.n] 30)
  have hi := sindexC A c l x _ hl (h.below hb)
  have e : decide (0 ≤ idx l x) = decide (x ∈ l) := decide_eq_decide.2 idx_nonneg
  rw [← e]
  clear e h
  generalize idx l x = I at *
  generalize l.length = n at *
  go_enter Tryd.func18, Tryd.ntmps18
  go_wp2_with fail
  refine hi.mono ?_
  rintro e w1 ⟨rfl, hb1⟩
  go_wp2_with fail
  go_ret
  exact ⟨rfl, hb.trans (hb1.mono (by simp))⟩
end Go.Proofs.YtacoeahipklibaaDoor
