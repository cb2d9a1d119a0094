/- Played notes in memory; same, Part, Clip. -/
import Derived.Test.YtmbchdfgckmpoaaGreatDoorVK
import Derived.Test.YtmbchdfgckmpoaaGreatDoorRel
import Derived.WalkKit
import Derived.WalkSpells
import Derived.WalkLawsBesides
import Derived.Handy
import Derived.Lib.Hide
import Derived.IntWalk
import Derived.Deep.DeepCutAuto
import Derived.Deep.CutBlock
import Derived.Deep.AppendLies
import Derived.Deep.RegionHeld3
import Derived.RegionTactic
import Derived.ChangeAlike
import Derived.Deep.QuietTactic
import Derived.BigQuiet
import Derived.Lib.QuietBelow
import Derived.Laws.OwnMore
import Derived.OwnWalk
namespace Go.Proofs.YtmbchdfgckmpoaaGreatDoor
open Go.RowKit Go.Sort

theorem bcell {W w1 : World} (hb : Below W.heap.size W w1) : (∀ b o, b < W.heap.size → w1.cell? ⟨b, o, none⟩ = W.cell? ⟨b, o, none⟩) ∧ (∀ b o, b < W.heap.size → w1.frozen? ⟨b, o, none⟩ = W.frozen? ⟨b, o, none⟩) :=
  ⟨fun b o h => hb.cell (p := ⟨b, o, none⟩) h, fun b o h => hb.frozen (p := ⟨b, o, none⟩) h⟩
theorem OwnRow.below {w w' : World} {base : Nat} {e : TypeId} {size : Nat} {v : Value} {n : Nat} {xs : List Value} (h : w.ownsRow base e size v n xs) (hb : Below w.heap.size w w') : w'.ownsRow base e size v n xs :=
  h.kept (row := none) ⟨hb.os, hb.tape, hb.output, hb.size, fun i hi _ => hb.block i hi⟩ (by cases v.ownBlock <;> simp)

structure Ply where
  o : Int
  f : Int
  n : Int
  v : Int
  p : Int
  s : Int
  e : Int
  deriving DecidableEq
def plyZ : Ply := ⟨0, 0, 0, 0, 0, 0, 0⟩
def nth (l : List Ply) (k : Nat) : Ply := l.getD k plyZ
theorem nth_mem {l : List Ply} {k : Nat} (h : k < l.length) : nth l k ∈ l := by
  unfold nth; rw [List.getD_eq_getElem?_getD, List.getElem?_eq_getElem h]; exact List.getElem_mem h
def encY (t : Ply) : List Value := [.int .i64 t.o, .int .i64 t.f, .int .i64 t.n, .int .i64 t.v, .int .i64 t.p, .int .i64 t.s, .int .i64 t.e]
abbrev yV (t : Ply) : Value := .agg #[.int .i64 t.o, .int .i64 t.f, .int .i64 t.n, .int .i64 t.v, .int .i64 t.p, .int .i64 t.s, .int .i64 t.e]
def AtY (w : World) (b o : Nat) (t : Ply) : Prop := w.cell? ⟨b, o, none⟩ = some (.int .i64 t.o) ∧ w.cell? ⟨b, o + 1, none⟩ = some (.int .i64 t.f) ∧ w.cell? ⟨b, o + 2, none⟩ = some (.int .i64 t.n) ∧ w.cell? ⟨b, o + 3, none⟩ = some (.int .i64 t.v) ∧ w.cell? ⟨b, o + 4, none⟩ = some (.int .i64 t.p) ∧ w.cell? ⟨b, o + 5, none⟩ = some (.int .i64 t.s) ∧ w.cell? ⟨b, o + 6, none⟩ = some (.int .i64 t.e)
theorem AtY.below {w w' : World} {B b o : Nat} {t : Ply} (h : AtY w b o t) (hb : Below B w w') (hB : b < B) : AtY w' b o t :=
  ⟨(hb.cell (p := ⟨b, _, none⟩) hB).trans h.1, (hb.cell (p := ⟨b, _, none⟩) hB).trans h.2.1, (hb.cell (p := ⟨b, _, none⟩) hB).trans h.2.2.1, (hb.cell (p := ⟨b, _, none⟩) hB).trans h.2.2.2.1, (hb.cell (p := ⟨b, _, none⟩) hB).trans h.2.2.2.2.1, (hb.cell (p := ⟨b, _, none⟩) hB).trans h.2.2.2.2.2.1, (hb.cell (p := ⟨b, _, none⟩) hB).trans h.2.2.2.2.2.2⟩
def RdY (w : World) (b off : Nat) (l : List Ply) : Prop := ∀ k, k < l.length → AtY w b (off + k * 7) (nth l k)
theorem RdY.below {w w' : World} {B b off : Nat} {l : List Ply} (h : RdY w b off l) (hb : Below B w w') (hB : b < B) : RdY w' b off l :=
  fun k hk => (h k hk).below hb hB
def SlY (w : World) (A : Option Addr) (l : List Ply) : Prop := l = [] ∨ (0 < l.length ∧ ∃ b off, A = some ⟨b, off, none⟩ ∧ b < w.heap.size ∧ RdY w b off l)
theorem SlY.below {w w' : World} {A : Option Addr} {l : List Ply} (h : SlY w A l) (hb : Below w.heap.size w w') : SlY w' A l := by
  rcases h with h | ⟨h0, b, off, rfl, hl, hr⟩
  · exact .inl h
  · exact .inr ⟨h0, b, off, rfl, Nat.lt_of_lt_of_le hl hb.size, hr.below hb hl⟩
theorem SlY.some {w : World} {A : Option Addr} {l : List Ply} (h : SlY w A l) {k : Nat} (hk : k < l.length) : ∃ b off, A = Option.some ⟨b, off, none⟩ ∧ b < w.heap.size ∧ RdY w b off l := by
  rcases h with rfl | ⟨_, h⟩
  · simp at hk
  · exact h
theorem SlY.intro {w : World} {b off : Nat} {l : List Ply} (hb : b < w.heap.size) (h : RdY w b off l) : SlY w (Option.some ⟨b, off, none⟩) l := by
  by_cases h0 : 0 < l.length
  · exact .inr ⟨h0, b, off, rfl, hb, h⟩
  · exact .inl (List.eq_nil_of_length_eq_zero (by omega))
def cellsY (l : List Ply) : List Value := l.flatMap encY
theorem cellsY_snoc (l : List Ply) (t : Ply) : cellsY (l ++ [t]) = cellsY l ++ encY t := by simp [cellsY]
theorem cellsY_len (l : List Ply) : (cellsY l).length = l.length * 7 := by
  induction l with
  | nil => rfl
  | cons x l ih => simp [cellsY, encY] at *; omega
theorem cellsY_get : ∀ (l : List Ply) (k j : Nat), k < l.length → j < 7 → (cellsY l)[k * 7 + j]? = (encY (nth l k))[j]?
  | x :: l, 0, j, _, hj => by
    have : cellsY (x :: l) = encY x ++ cellsY l := rfl
    rw [this, List.getElem?_append_left (by simp [encY]; omega)]
    simp [nth]
  | x :: l, k + 1, j, hk, hj => by
    have : cellsY (x :: l) = encY x ++ cellsY l := rfl
    have ih := cellsY_get l k j (by simpa using hk) hj
    rw [this, List.getElem?_append_right (by simp [encY]; omega)]
    have e : (k + 1) * 7 + j - (encY x).length = k * 7 + j := by simp [encY]; omega
    rw [e, ih]
    rfl
theorem ownY_slice {w : World} {base : Nat} {v : Value} {l : List Ply} (h : w.ownsRow base 27 7 v l.length (cellsY l)) : ∃ A cap, v = .slice A l.length cap ∧ SlY w A l := by
  by_cases h0 : 0 < l.length
  · obtain ⟨g, cap, rfl, _, _⟩ := h.form h0
    have hl := h.lt g rfl
    refine ⟨_, _, rfl, .inr ⟨h0, g, 0, rfl, hl.2, fun k hk => ?_⟩⟩
    have hc := fun j (hj : j < 7) => h.cellAt (k * 7 + j) (by omega)
    have hg := fun j (hj : j < 7) => cellsY_get l k j hk hj
    rw [Nat.zero_add]
    exact ⟨by rw [show k * 7 = k * 7 + 0 by omega, hc 0 (by omega), hg 0 (by omega)]; rfl, by rw [hc 1 (by omega), hg 1 (by omega)]; rfl, by rw [hc 2 (by omega), hg 2 (by omega)]; rfl, by rw [hc 3 (by omega), hg 3 (by omega)]; rfl, by rw [hc 4 (by omega), hg 4 (by omega)]; rfl, by rw [hc 5 (by omega), hg 5 (by omega)]; rfl, by rw [hc 6 (by omega), hg 6 (by omega)]; rfl⟩
  · obtain rfl : l = [] := List.eq_nil_of_length_eq_zero (by omega)
    rcases h.2 with ⟨rfl, _⟩ | ⟨g, cap, cur, rfl, _⟩
    · exact ⟨_, _, rfl, .inl rfl⟩
    · exact ⟨_, _, rfl, .inl rfl⟩
theorem info27 : (Tryz.prog.info? 27).map (fun i => (i.zero, i.size, i.bytes)) = some (some (.agg #[.int .i64 0, .int .i64 0, .int .i64 0, .int .i64 0, .int .i64 0, .int .i64 0, .int .i64 0]), 7, 56) := by kernel_rfl

set_option maxHeartbeats 2000000 in
theorem sameC (A B : Option Addr) (c d : Nat) (l : List Ply) (w : World) (hl : l.length ≤ 1000) (hA : SlY w A l) (hB : SlY w B l) :
    Calls Tryz.prog 9 #[.slice A l.length c, .slice B l.length d] w fun r w' => r = .returned (.bool true) ∧ Below w.heap.size w w' := by
  generalize hn : l.length = n at *
  go_enter Tryz.func9, Tryz.ntmps9
  go_wp2_with fail
  go_loopw [5] (fun i wr => ∃ k : Nat, k ≤ n ∧ i = .int .i64 k ∧ Below w.heap.size w wr) (fun i _ => n - (intOf i).toNat)
  case atStart => exact ⟨0, by omega, rfl, Below.refl _ _⟩
  case round =>
    obtain ⟨k, hk, rfl, hb⟩ := hrel
    by_cases hlt : k < n
    · obtain ⟨b1, o1, hA1, hl1, hr1⟩ := hA.some (k := k) (by rw [hn]; exact hlt)
      obtain ⟨b2, o2, hB1, hl2, hr2⟩ := hB.some (k := k) (by rw [hn]; exact hlt)
      cases hA1
      cases hB1
      have hkl : k < l.length := by rw [hn]; exact hlt
      obtain ⟨r0, r1, r2, r3, r4, r5, r6⟩ := hr1.below hb hl1 k hkl
      obtain ⟨s0, s1, s2, s3, s4, s5, s6⟩ := hr2.below hb hl2 k hkl
      clear hr1 hr2 hA hB
      generalize nth l k = x at *
      go_wp2_with fail
      go_region
      go_wp2_with fail
      go_roundw
      case rel => exact ⟨k + 1, by omega, by go_num, hb.drew⟩
      case measure => simp [intOf]; omega
    · obtain rfl : k = n := by omega
      go_wp2_with fail
      go_ret
      exact ⟨rfl, hb⟩
end Go.Proofs.YtmbchdfgckmpoaaGreatDoor
