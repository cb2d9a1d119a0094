/- A row of tones of our own: stores, swaps, slices.Reverse (printed by mkT13.py). -/
import Derived.Test.YteoghladllohjaaGreatDoorT12
namespace Go.Proofs.YteoghladllohjaaGreatDoor
open Go.RowKit Go.Shelf Go.Sort

def putT (w : World) (g i : Nat) (x : Tone) : World := (((((w.setCell ⟨g, i * 5, none⟩ (.int .i64 x.len)).setCell ⟨g, i * 5 + 1, none⟩ (.int .i64 x.p.st)).setCell ⟨g, i * 5 + 2, none⟩ (.int .i64 x.p.al)).setCell ⟨g, i * 5 + 3, none⟩ (.int .i64 x.p.oc)).setCell ⟨g, i * 5 + 4, none⟩ (.bool x.rest))
theorem cellsT_cons (z : Tone) (l : List Tone) : cellsT (z :: l) = .int .i64 z.len :: .int .i64 z.p.st :: .int .i64 z.p.al :: .int .i64 z.p.oc :: .bool z.rest :: cellsT l := rfl
theorem cellsT_set (x : Tone) : ∀ (l : List Tone) (i : Nat), cellsT (l.set i x) = ((((((cellsT l).set (i * 5) (.int .i64 x.len)).set (i * 5 + 1) (.int .i64 x.p.st)).set (i * 5 + 2) (.int .i64 x.p.al)).set (i * 5 + 3) (.int .i64 x.p.oc)).set (i * 5 + 4) (.bool x.rest))
  | [], i => by simp [cellsT]
  | z :: l, 0 => by simp [cellsT_cons]
  | z :: l, i + 1 => by
    have ih := cellsT_set x l i
    rw [List.set_cons_succ, cellsT_cons, ih, cellsT_cons]
    simp only [show (i + 1) * 5 = i * 5 + 1 + 1 + 1 + 1 + 1 by omega, show ∀ k : Nat, i * 5 + 1 + 1 + 1 + 1 + 1 + k = (i * 5 + k) + 1 + 1 + 1 + 1 + 1 by omega, List.set_cons_succ]
theorem own_put {w : World} {base g n cap : Nat} {l : List Tone} (h : w.ownsRow base 35 5 (.slice (some ⟨g, 0, none⟩) n cap) n (cellsT l)) (i : Nat) (x : Tone) :
    (putT w g i x).ownsRow base 35 5 (.slice (some ⟨g, 0, none⟩) n cap) n (cellsT (l.set i x)) := by
  rw [cellsT_set]
  have h0 := h
  have h1 := (h0.stored (i * 5) (.int .i64 x.len)).1
  have h2 := (h1.stored (i * 5 + 1) (.int .i64 x.p.st)).1
  have h3 := (h2.stored (i * 5 + 2) (.int .i64 x.p.al)).1
  have h4 := (h3.stored (i * 5 + 3) (.int .i64 x.p.oc)).1
  have h5 := (h4.stored (i * 5 + 4) (.bool x.rest)).1
  exact h5
theorem putT_below {B : Nat} {a w : World} (h : Below B a w) {g : Nat} (hb : B ≤ g) (i : Nat) (x : Tone) : Below B a (putT w g i x) := (((((h.setCell (p := ⟨g, i * 5, none⟩) hb _).setCell (p := ⟨g, i * 5 + 1, none⟩) hb _).setCell (p := ⟨g, i * 5 + 2, none⟩) hb _).setCell (p := ⟨g, i * 5 + 3, none⟩) hb _).setCell (p := ⟨g, i * 5 + 4, none⟩) hb _)
theorem own_at {w : World} {base g n cap : Nat} {l : List Tone} (h : w.ownsRow base 35 5 (.slice (some ⟨g, 0, none⟩) n cap) n (cellsT l)) (hn : l.length = n) {k : Nat} (hk : k < n) : AtT w g (k * 5) (nth l k) := by
  have hc := fun j (hj : j < 5) => h.cellAt (k * 5 + j) (by omega)
  have hg := fun j (hj : j < 5) => cellsT_get l k j (by omega) hj
  exact ⟨by rw [show k * 5 = k * 5 + 0 by omega, hc 0 (by omega), hg 0 (by omega)]; rfl, by rw [hc 1 (by omega), hg 1 (by omega)]; rfl, by rw [hc 2 (by omega), hg 2 (by omega)]; rfl, by rw [hc 3 (by omega), hg 3 (by omega)]; rfl, by rw [hc 4 (by omega), hg 4 (by omega)]; rfl⟩
theorem nth_set {l : List Tone} {i : Nat} (h : i < l.length) (x : Tone) (k : Nat) : nth (l.set i x) k = if k = i then x else nth l k := by
  unfold nth
  rw [List.getD_eq_getElem?_getD, List.getD_eq_getElem?_getD, List.getElem?_set]
  by_cases e : i = k
  · subst e; rw [if_pos rfl, if_pos rfl, if_pos h]; rfl
  · rw [if_neg e, if_neg (fun c => e c.symm)]
def swapT (l : List Tone) (i j : Nat) : List Tone := (l.set i (nth l j)).set j (nth l i)
theorem nth_swapT {l : List Tone} {i j : Nat} (hi : i < l.length) (hj : j < l.length) (k : Nat) : nth (swapT l i j) k = if k = j then nth l i else if k = i then nth l j else nth l k := by
  unfold swapT
  rw [nth_set (by simpa using hj), nth_set hi]
def swapW (w : World) (g i j : Nat) (l : List Tone) : World := putT (putT w g i (nth l j)) g j (nth l i)
theorem own_swap {w : World} {base g n cap : Nat} {l : List Tone} (h : w.ownsRow base 35 5 (.slice (some ⟨g, 0, none⟩) n cap) n (cellsT l)) (i j : Nat) :
    (swapW w g i j l).ownsRow base 35 5 (.slice (some ⟨g, 0, none⟩) n cap) n (cellsT (swapT l i j)) := own_put (own_put h i _) j _

/-- The first q and the last q tones are exchanged. -/
def Rev (l M : List Tone) (q : Nat) : Prop := M.length = l.length ∧ ∀ k, k < l.length → nth M k = if k < q ∨ l.length - q ≤ k then nth l (l.length - 1 - k) else nth l k
theorem Rev.start (l : List Tone) : Rev l l 0 := ⟨rfl, fun k hk => by rw [if_neg (by omega)]⟩
theorem Rev.step {l M : List Tone} {q : Nat} (h : Rev l M q) (hq : 2 * q + 2 ≤ l.length) : Rev l (swapT M q (l.length - 1 - q)) (q + 1) := by
  obtain ⟨h1, h2⟩ := h
  refine ⟨by simp [swapT, h1], fun k hk => ?_⟩
  have a := h2 q (by omega)
  rw [if_neg (by omega)] at a
  have b := h2 (l.length - 1 - q) (by omega)
  rw [if_neg (by omega)] at b
  rw [nth_swapT (by omega) (by omega), a, b, h2 k hk]
  by_cases e1 : k = l.length - 1 - q
  · subst e1
    rw [if_pos rfl, if_pos (by omega)]
    congr 1; omega
  · rw [if_neg e1]
    by_cases e2 : k = q
    · subst e2; rw [if_pos rfl, if_pos (by omega)]
    · rw [if_neg e2]
      by_cases e3 : k < q ∨ l.length - q ≤ k
      · rw [if_pos e3, if_pos (by omega)]
      · rw [if_neg e3, if_neg (by omega)]
theorem nth_ext {l m : List Tone} (h : l.length = m.length) (k : ∀ i, i < l.length → nth l i = nth m i) : l = m := by
  apply List.ext_getElem h
  intro i h1 h2
  have := k i h1
  unfold nth at this
  rwa [List.getD_eq_getElem?_getD, List.getD_eq_getElem?_getD, List.getElem?_eq_getElem h1, List.getElem?_eq_getElem h2] at this
theorem nth_rev {l : List Tone} {k : Nat} (hk : k < l.length) : nth l.reverse k = nth l (l.length - 1 - k) := by
  unfold nth
  rw [List.getD_eq_getElem?_getD, List.getD_eq_getElem?_getD, List.getElem?_reverse hk]
theorem Rev.done {l M : List Tone} {q : Nat} (h : Rev l M q) (hq : l.length ≤ 2 * q + 1) (hq2 : 2 * q ≤ l.length) : M = l.reverse := by
  obtain ⟨h1, h2⟩ := h
  refine nth_ext (by simpa using h1) fun k hk => ?_
  rw [h2 k (by omega), nth_rev (by omega)]
  by_cases e : k < q ∨ l.length - q ≤ k
  · rw [if_pos e]
  · rw [if_neg e]; congr 1; omega

set_option maxHeartbeats 8000000 in
set_option maxRecDepth 20000 in
theorem revC (l : List Tone) (g cap n base : Nat) (w : World) (hown : w.ownsRow base 35 5 (.slice (some ⟨g, 0, none⟩) n cap) n (cellsT l)) (hbase : base ≤ g) (hn : l.length = n) (h0 : 0 < n) (h70 : n ≤ 1000) (hbw : base ≤ w.heap.size) :
    Calls Tryz.prog 23 #[.slice (some ⟨g, 0, none⟩) n cap] w fun r w' => r = .returned (.tuple #[]) ∧ w'.ownsRow base 35 5 (.slice (some ⟨g, 0, none⟩) n cap) n (cellsT l.reverse) ∧ Below base w w' := by
  have hstep := fun M q => Rev.step (l := l) (M := M) (q := q)
  have hdone := fun M q => Rev.done (l := l) (M := M) (q := q)
  have hlen := fun M q (h : Rev l M q) => h.1
  rw [hn] at hstep hdone hlen
  have hst := Rev.start l
  clear hn
  go_enter Tryz.func23, Tryz.ntmps23
  go_wp2_with fail
  go_loopw [2, 3] (fun iv jv wr => ∃ (q : Nat) (M : List Tone), iv = .int .i64 q ∧ jv = .int .i64 ((n : Int) - 1 - q) ∧ 2 * q ≤ n ∧ Aside (Rev l M q) ∧ Aside (wr.ownsRow base 35 5 (.slice (some ⟨g, 0, none⟩) n cap) n (cellsT M)) ∧ Below base w wr) (fun iv _ _ => n - (intOf iv).toNat)
  case atStart => exact ⟨0, l, rfl, by simp, by omega, (show Aside _ from hst), (show Aside _ from hown), Below.refl _ _⟩
  case round =>
    obtain ⟨q, M, rfl, rfl, hq, hR, hO, hB⟩ := hrel
    clear hown hst
    have hR := hR.out
    have hO := hO.out
    by_cases hlt : 2 * q + 2 ≤ n
    · have hgl : g < wr.heap.size := (hO.lt g rfl).2
      have hml := hlen _ _ hR
      have hn2 := hstep _ _ hR hlt
      have hso := own_swap hO q (n - 1 - q)
      have hsb : Below base w (swapW wr g q (n - 1 - q) M) := putT_below (putT_below hB hbase _ _) hbase _ _
      have hz : (q : Int) < (n : Int) - 1 - q := by omega
      have hj : ((n : Int) - 1 - q) = ((n - 1 - q : Nat) : Int) := by omega
      rw [hj] at hz ⊢
      have hX := own_at hO (by omega) (k := q) (by omega)
      have hY := own_at hO (by omega) (k := n - 1 - q) (by omega)
      have hjj : (n - 1 - q) < n := by omega
      have hq3 : 2 * (q + 1) ≤ n := by omega
      have hjn : ((n - 1 - q : Nat) : Int) - 1 = (n : Int) - 1 - ((q + 1 : Nat) : Int) := by omega
      have hjn := Lib.hid hjn
      have fO := hO.frozenAt
      unfold swapW at hso hsb
      generalize hjd : n - 1 - q = j at *
      clear hjd hj
      obtain ⟨x0, x1, x2, x3, x4⟩ := hX
      obtain ⟨y0, y1, y2, y3, y4⟩ := hY
      have fx0 := fO (q * 5)
      have fx1 := fO (q * 5 + 1)
      have fx2 := fO (q * 5 + 2)
      have fx3 := fO (q * 5 + 3)
      have fx4 := fO (q * 5 + 4)
      have fy0 := fO (j * 5)
      have fy1 := fO (j * 5 + 1)
      have fy2 := fO (j * 5 + 2)
      have fy3 := fO (j * 5 + 3)
      have fy4 := fO (j * 5 + 4)
      generalize nth M q = x at *
      generalize nth M j = y at *
      generalize swapT M q j = M2 at *
      unfold putT at hso hsb
      have HX := Lib.hid (And.intro hn2 (And.intro hso hsb))
      clear hR hO hn2 hso hsb hstep hdone hlen fO hml
      go_wp2_with fail
      go_region
      obtain ⟨hn2, hso, hsb⟩ := HX.out
      generalize ((((((((((wr.setCell ⟨g, q * 5, none⟩ (.int .i64 y.len)).setCell ⟨g, q * 5 + 1, none⟩ (.int .i64 y.p.st)).setCell ⟨g, q * 5 + 2, none⟩ (.int .i64 y.p.al)).setCell ⟨g, q * 5 + 3, none⟩ (.int .i64 y.p.oc)).setCell ⟨g, q * 5 + 4, none⟩ (.bool y.rest)).setCell ⟨g, j * 5, none⟩ (.int .i64 x.len)).setCell ⟨g, j * 5 + 1, none⟩ (.int .i64 x.p.st)).setCell ⟨g, j * 5 + 2, none⟩ (.int .i64 x.p.al)).setCell ⟨g, j * 5 + 3, none⟩ (.int .i64 x.p.oc)).setCell ⟨g, j * 5 + 4, none⟩ (.bool x.rest)) = w2 at *
      have HX := Lib.hid (And.intro hn2 (And.intro hso hsb))
      clear hn2 hso hsb x0 x1 x2 x3 x4 y0 y1 y2 y3 y4 fx0 fx1 fx2 fx3 fx4 fy0 fy1 fy2 fy3 fy4
      go_wp2_with fail
      go_roundw
      case rel =>
        obtain ⟨h1, h2, h3⟩ := HX.out
        exact ⟨q + 1, M2, by go_num, by have := hjn.out; exact congrArg (Value.int .i64) (by omega), hq3, (show Aside _ from h1), (show Aside _ from h2.drew), h3.drew⟩
      case measure => simp [intOf]; omega
    · have hz : ¬ (q : Int) < (n : Int) - 1 - q := by omega
      have hd := hdone _ _ hR (by omega) hq
      have hX := Lib.hid (And.intro hd hO)
      clear hR hO hd hstep hdone hlen
      go_wp2_with fail
      go_end0
      obtain ⟨h1, h2⟩ := hX.out
      rw [h1] at h2
      exact ⟨rfl, h2, hB⟩
end Go.Proofs.YteoghladllohjaaGreatDoor
