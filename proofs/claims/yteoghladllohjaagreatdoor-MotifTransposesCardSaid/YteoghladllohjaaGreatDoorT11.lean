/- motif.changed and the model's change, at any function of pitches. -/
import Derived.Test.YteoghladllohjaaGreatDoorT10
import Derived.Test.YteoghladllohjaaGreatDoorM17
namespace Go.Proofs.YteoghladllohjaaGreatDoor
open Go.RowKit Go.Shelf Go.Sort

def chT (gp : Pit → Pit) (t : Tone) : Tone := if t.rest = true then t else ⟨t.len, gp t.p, false⟩
def chE (ge : Pit → Int) (t : Tone) : Int := if t.rest = true then 0 else ge t.p
def chErr (ge : Pit → Int) : List Tone → Int
  | [] => 0
  | t :: l => if chE ge t = 0 then chErr ge l else chE ge t
def chL (gp : Pit → Pit) (l : List Tone) : List Tone := l.map (chT gp)
theorem chErr_drop {ge : Pit → Int} {l : List Tone} {k : Nat} (h : k < l.length) : chErr ge (l.drop k) = if chE ge (nth l k) = 0 then chErr ge (l.drop (k + 1)) else chE ge (nth l k) := by
  unfold nth
  rw [List.drop_eq_getElem_cons h, List.getD_eq_getElem?_getD, List.getElem?_eq_getElem h]
  rfl
theorem chErr_end {ge : Pit → Int} (l : List Tone) {k : Nat} (h : l.length ≤ k) : chErr ge (l.drop k) = 0 := by
  rw [List.drop_eq_nil_of_le h]; rfl
theorem chE_or {ge : Pit → Int} (hg : ∀ p, ge p = 0 ∨ ge p = 18) (t : Tone) : chE ge t = 0 ∨ chE ge t = 18 := by
  unfold chE; split
  · exact .inl rfl
  · exact hg _
theorem chErr_or {ge : Pit → Int} (hg : ∀ p, ge p = 0 ∨ ge p = 18) : ∀ l, chErr ge l = 0 ∨ chErr ge l = 18
  | [] => .inl rfl
  | t :: l => by
    unfold chErr; split
    · exact chErr_or hg l
    · exact chE_or hg t
theorem chL_len (gp : Pit → Pit) (l : List Tone) : (chL gp l).length = l.length := by simp [chL]
theorem chL_nth {gp : Pit → Pit} {l : List Tone} {k : Nat} (h : k < l.length) : nth (chL gp l) k = chT gp (nth l k) := by
  unfold nth chL
  rw [List.getD_eq_getElem?_getD, List.getD_eq_getElem?_getD, List.getElem?_map, List.getElem?_eq_getElem h]
  rfl
def chP (gp : Pit → Pit) (l : List Tone) (k : Nat) : List Tone := (l.take k).map (chT gp)
theorem chP_len {gp : Pit → Pit} {l : List Tone} {k : Nat} (h : k ≤ l.length) : (chP gp l k).length = k := by simp [chP]; omega
theorem chP_snoc {gp : Pit → Pit} {l : List Tone} {k : Nat} (h : k < l.length) : chP gp l (k + 1) = chP gp l k ++ [chT gp (nth l k)] := by
  unfold chP nth
  rw [List.getD_eq_getElem?_getD, List.getElem?_eq_getElem h, List.take_add_one, List.getElem?_eq_getElem h, List.map_append]
  rfl
theorem chP_all {gp : Pit → Pit} {l : List Tone} {k : Nat} (h : l.length ≤ k) : chP gp l k = chL gp l := by
  unfold chP chL; rw [List.take_of_length_le h]

/-- How both end: the list, or an error; the error that is told may be another one. -/
def ChEnd (gp : Pit → Pit) (ge : Pit → Int) (l : List Tone) (r : Ending) (w' : World) : Prop :=
  (chErr ge l = 0 → ∃ A' c', r = .returned (.tuple #[.slice A' l.length c', .int .i64 0]) ∧ SlT w' A' (chL gp l)) ∧ (chErr ge l ≠ 0 → r = .returned (.tuple #[.slice none 0 0, .int .i64 18]))
theorem ChEnd.off {gp : Pit → Pit} {ge : Pit → Int} {l : List Tone} {w' : World} (he : chErr ge l = 18) : ChEnd gp ge l (.returned (.tuple #[.slice none 0 0, .int .i64 18])) w' :=
  ⟨fun h => absurd (he.symm.trans h) (by decide), fun _ => rfl⟩
theorem ChEnd.on {gp : Pit → Pit} {ge : Pit → Int} {l : List Tone} {w' : World} {g off c' n : Nat} (he : chErr ge l = 0) (hn : n = l.length) (hg : g < w'.heap.size) (hr : RdT w' g off (chL gp l)) : ChEnd gp ge l (.returned (.tuple #[.slice (some ⟨g, off, none⟩) n c', .int .i64 0])) w' :=
  ⟨fun _ => ⟨_, _, by rw [hn], SlT.intro hg hr⟩, fun h => absurd he h⟩
theorem ChEnd.own {gp : Pit → Pit} {ge : Pit → Int} {l : List Tone} {w' : World} {base : Nat} {v : Value} (he : chErr ge l = 0) (ho : w'.ownsRow base 35 5 v (chL gp l).length (cellsT (chL gp l))) : ChEnd gp ge l (.returned (.tuple #[v, .int .i64 0])) w' := by
  obtain ⟨A, cap, rfl, hs⟩ := ownT_slice ho
  rw [chL_len]
  exact ⟨fun _ => ⟨_, _, rfl, hs⟩, fun h => absurd he h⟩

/-- The first k tones are turned. -/
def MixC (W : World) (g off : Nat) (gp : Pit → Pit) (l : List Tone) (k : Nat) : Prop := ∀ j, j < l.length → AtT W g (off + j * 5) (if j < k then chT gp (nth l j) else nth l j)
theorem MixC.at {W : World} {g off : Nat} {gp : Pit → Pit} {l : List Tone} {k : Nat} (h : MixC W g off gp l k) (hk : k < l.length) : AtT W g (off + k * 5) (nth l k) := by
  have := h k hk
  rwa [if_neg (by omega)] at this
theorem MixC.below {W W' : World} {B g off : Nat} {gp : Pit → Pit} {l : List Tone} {k : Nat} (h : MixC W g off gp l k) (hb : Below B W W') (hg : g < B) : MixC W' g off gp l k := fun j hj => (h j hj).below hb hg
theorem MixC.skip {W : World} {g off : Nat} {gp : Pit → Pit} {l : List Tone} {k : Nat} (h : MixC W g off gp l k) (hr : (nth l k).rest = true) : MixC W g off gp l (k + 1) := fun j hj => by
  have := h j hj
  by_cases e : j = k
  · subst e
    rw [if_neg (by omega)] at this
    rw [if_pos (by omega)]
    unfold chT
    rw [if_pos hr]; exact this
  · have e2 : (if j < k + 1 then chT gp (nth l j) else nth l j) = (if j < k then chT gp (nth l j) else nth l j) := by
      by_cases h1 : j < k
      · rw [if_pos h1, if_pos (by omega)]
      · rw [if_neg h1, if_neg (by omega)]
    rw [e2]; exact this
theorem MixC.step {W : World} {g off : Nat} {gp : Pit → Pit} {l : List Tone} {k : Nat} (h : MixC W g off gp l k) (hk : k < l.length) (hr : (nth l k).rest = false) {s a o : Int} (hq : gp (nth l k).p = ⟨s, a, o⟩) :
    MixC (((W.setCell ⟨g, off + k * 5 + 1, none⟩ (.int .i64 s)).setCell ⟨g, off + k * 5 + 1 + 1, none⟩ (.int .i64 a)).setCell ⟨g, off + k * 5 + 1 + 2, none⟩ (.int .i64 o)) g off gp l (k + 1) := by
  intro j hj
  have far : ∀ q v, q ≠ off + k * 5 + 1 → q ≠ off + k * 5 + 1 + 1 → q ≠ off + k * 5 + 1 + 2 → W.cell? ⟨g, q, none⟩ = some v → (((W.setCell ⟨g, off + k * 5 + 1, none⟩ (.int .i64 s)).setCell ⟨g, off + k * 5 + 1 + 1, none⟩ (.int .i64 a)).setCell ⟨g, off + k * 5 + 1 + 2, none⟩ (.int .i64 o)).cell? ⟨g, q, none⟩ = some v := fun q v h1 h2 h3 hc =>
    (World.cell?_setCell_other _ _ _ _ (fun e => h3 (by cases e; rfl))).trans ((World.cell?_setCell_other _ _ _ _ (fun e => h2 (by cases e; rfl))).trans ((World.cell?_setCell_other W _ _ _ (fun e => h1 (by cases e; rfl))).trans hc))
  by_cases e : j = k
  · subst e
    obtain ⟨c0, c1, c2, c3, c4⟩ := h.at hk
    rw [if_pos (by omega)]
    have hT : chT gp (nth l j) = ⟨(nth l j).len, ⟨s, a, o⟩, false⟩ := by unfold chT; rw [if_neg (by rw [hr]; decide), hq]
    rw [hT]
    rw [hr] at c4
    refine ⟨far _ _ (by omega) (by omega) (by omega) c0, ?_, ?_, ?_, far _ _ (by omega) (by omega) (by omega) c4⟩
    · exact (World.cell?_setCell_other _ _ _ _ (fun e => by injection e with _ e2 _; omega)).trans ((World.cell?_setCell_other _ _ _ _ (fun e => by injection e with _ e2 _; omega)).trans (World.cell?_setCell_same W _ _ c1))
    · have c2' := (World.cell?_setCell_other W ⟨g, off + j * 5 + 1, none⟩ ⟨g, off + j * 5 + 1 + 1, none⟩ (.int .i64 s) (fun e => by injection e with _ e2 _; omega)).trans c2
      exact (World.cell?_setCell_other _ _ _ _ (fun e => by injection e with _ e2 _; omega)).trans (World.cell?_setCell_same _ _ _ c2')
    · have c3' := (World.cell?_setCell_other (W.setCell ⟨g, off + j * 5 + 1, none⟩ (.int .i64 s)) ⟨g, off + j * 5 + 1 + 1, none⟩ ⟨g, off + j * 5 + 1 + 2, none⟩ (.int .i64 a) (fun e => by injection e with _ e2 _; omega)).trans ((World.cell?_setCell_other W ⟨g, off + j * 5 + 1, none⟩ ⟨g, off + j * 5 + 1 + 2, none⟩ (.int .i64 s) (fun e => by injection e with _ e2 _; omega)).trans c3)
      exact World.cell?_setCell_same _ _ _ c3'
  · have e2 : (if j < k + 1 then chT gp (nth l j) else nth l j) = (if j < k then chT gp (nth l j) else nth l j) := by
      by_cases h1 : j < k
      · rw [if_pos h1, if_pos (by omega)]
      · rw [if_neg h1, if_neg (by omega)]
    have hj' := h j hj
    rw [e2]
    generalize (if j < k then chT gp (nth l j) else nth l j) = t at hj' ⊢
    obtain ⟨c0, c1, c2, c3, c4⟩ := hj'
    exact ⟨far _ _ (by omega) (by omega) (by omega) c0, far _ _ (by omega) (by omega) (by omega) c1, far _ _ (by omega) (by omega) (by omega) c2, far _ _ (by omega) (by omega) (by omega) c3, far _ _ (by omega) (by omega) (by omega) c4⟩
theorem MixC.done {W : World} {g off : Nat} {gp : Pit → Pit} {l : List Tone} {k : Nat} (h : MixC W g off gp l k) (hk : l.length ≤ k) : RdT W g off (chL gp l) := by
  intro j hj
  rw [chL_len] at hj
  have := h j hj
  rwa [if_pos (by omega), ← chL_nth hj] at this
theorem MixC.start {W : World} {g off : Nat} {gp : Pit → Pit} {l : List Tone} (h : RdT W g off l) : MixC W g off gp l 0 := fun j hj => by
  rw [if_neg (by omega)]; exact h j hj
end Go.Proofs.YteoghladllohjaaGreatDoor
