/- motif.Augment. -/
import Derived.Test.YtbmnkeihmmcciaaDoorM17
namespace Go.Proofs.YtbmnkeihmmcciaaDoor
open Go.RowKit Go.Shelf Go.Sort

set_option maxHeartbeats 2000000 in
theorem augBad (A : Option Addr) (c : Nat) (l : List Tone) (num den : Int) (w : World) (hl : l.length ≤ 1000) (hc : checkL l ≠ 0) (h : SlT w A l) :
    Calls Tryd.prog 14 #[.slice A l.length c, .int .i64 num, .int .i64 den] w fun r w' => r = .returned (.tuple #[.slice none 0 0, .int .i64 (checkL l)]) ∧ Below w.heap.size w w' := by
  have hck := checkC A c l w hl h
  have dc : (checkL l != 0) = true := by simpa using hc
  clear hc
  generalize checkL l = ck at *
  generalize l.length = m at *
  go_enter Tryd.func14, Tryd.ntmps14
  go_wp2_with fail
  refine hck.mono ?_
  rintro e w1 ⟨rfl, hb1⟩
  go_wp2_with fail
  go_ret2
  exact ⟨rfl, hb1⟩

set_option maxHeartbeats 4000000 in
theorem augRange (A : Option Addr) (c : Nat) (l : List Tone) (num den : Int) (w : World) (hc : checkL l = 0) (hr : num < 1 ∨ 64 < num ∨ den < 1 ∨ 64 < den) (h : SlT w A l) :
    Calls Tryd.prog 14 #[.slice A l.length c, .int .i64 num, .int .i64 den] w fun r w' => r = .returned (.tuple #[.slice none 0 0, .int .i64 2]) ∧ Below w.heap.size w w' := by
  have hck := checkC A c l w (by have := (checkL_zero hc).2.1; omega) h
  rw [hc] at hck
  clear hc
  have hr : num < 1 ∨ (1 ≤ num ∧ 64 < num) ∨ (1 ≤ num ∧ num ≤ 64 ∧ den < 1) ∨ (1 ≤ num ∧ num ≤ 64 ∧ 1 ≤ den ∧ 64 < den) := by omega
  generalize l.length = m at *
  rcases hr with h1 | ⟨h1, h2⟩ | ⟨h1, h2, h3⟩ | ⟨h1, h2, h3, h4⟩
  all_goals
    go_enter Tryd.func14, Tryd.ntmps14
    go_wp2_with fail
    refine hck.mono ?_
    rintro e w1 ⟨rfl, hb1⟩
    go_wp2_with fail
    go_ret2
    exact ⟨rfl, hb1⟩

def Mix (W : World) (g off : Nat) (num den : Int) (l : List Tone) (k : Nat) : Prop := ∀ j, j < l.length → AtT W g (off + j * 5) (if j < k then augT num den (nth l j) else nth l j)
theorem Mix.at {W : World} {g off : Nat} {num den : Int} {l : List Tone} {k : Nat} (h : Mix W g off num den l k) (hk : k < l.length) : AtT W g (off + k * 5) (nth l k) := by
  have := h k hk
  rwa [if_neg (by omega)] at this
theorem Mix.step {W : World} {g off : Nat} {num den : Int} {l : List Tone} {k : Nat} (h : Mix W g off num den l k) (hk : k < l.length) {q : Int} (hq : (nth l k).len * num / den = q) :
    Mix (W.setCell ⟨g, off + k * 5, none⟩ (.int .i64 q)) g off num den l (k + 1) := by
  intro j hj
  have far : ∀ o v, o ≠ off + k * 5 → W.cell? ⟨g, o, none⟩ = some v → (W.setCell ⟨g, off + k * 5, none⟩ (.int .i64 q)).cell? ⟨g, o, none⟩ = some v := fun o v ho hc =>
    (World.cell?_setCell_other W _ _ _ (fun e => ho (by cases e; rfl))).trans hc
  by_cases e : j = k
  · subst e
    obtain ⟨c0, c1, c2, c3, c4⟩ := h.at hk
    rw [if_pos (by omega)]
    subst hq
    exact ⟨World.cell?_setCell_same W _ _ c0, far _ _ (by omega) c1, far _ _ (by omega) c2, far _ _ (by omega) c3, far _ _ (by omega) c4⟩
  · have e2 : (if j < k + 1 then augT num den (nth l j) else nth l j) = (if j < k then augT num den (nth l j) else nth l j) := by
      by_cases h1 : j < k
      · rw [if_pos h1, if_pos (by omega)]
      · rw [if_neg h1, if_neg (by omega)]
    have hj' := h j hj
    rw [e2]
    generalize (if j < k then augT num den (nth l j) else nth l j) = t at hj' ⊢
    obtain ⟨c0, c1, c2, c3, c4⟩ := hj'
    exact ⟨far _ _ (by omega) c0, far _ _ (by omega) c1, far _ _ (by omega) c2, far _ _ (by omega) c3, far _ _ (by omega) c4⟩
theorem Mix.done {W : World} {g off : Nat} {num den : Int} {l : List Tone} {k : Nat} (h : Mix W g off num den l k) (hk : l.length ≤ k) : RdT W g off (augL num den l) := by
  intro j hj
  rw [augL_len] at hj
  have := h j hj
  rwa [if_pos (by omega), ← augL_nth hj] at this
theorem Mix.start {W : World} {g off : Nat} {num den : Int} {l : List Tone} (h : RdT W g off l) : Mix W g off num den l 0 := fun j hj => by
  rw [if_neg (by omega)]; exact h j hj

/-- How Augment ends where its arguments are in order. -/
def AugEnd (num den : Int) (l : List Tone) (r : Ending) (w' : World) : Prop :=
  (augErr num den l = 0 → ∃ A' c', r = .returned (.tuple #[.slice A' l.length c', .int .i64 0]) ∧ SlT w' A' (augL num den l)) ∧ (augErr num den l ≠ 0 → r = .returned (.tuple #[.slice none 0 0, .int .i64 (augErr num den l)]))
theorem AugEnd.off {num den : Int} {l : List Tone} {w' : World} {e : Int} (he : augErr num den l = e) (h0 : e ≠ 0) : AugEnd num den l (.returned (.tuple #[.slice none 0 0, .int .i64 e])) w' :=
  ⟨fun h => absurd (he.symm.trans h) h0, fun _ => by rw [he]⟩
theorem AugEnd.on {num den : Int} {l : List Tone} {w' : World} {g off c' n : Nat} (he : augErr num den l = 0) (hn : n = l.length) (hg : g < w'.heap.size) (hr : RdT w' g off (augL num den l)) : AugEnd num den l (.returned (.tuple #[.slice (some ⟨g, off, none⟩) n c', .int .i64 0])) w' :=
  ⟨fun _ => ⟨_, _, by rw [hn], SlT.intro hg hr⟩, fun h => absurd he h⟩

theorem augE_16 {num den : Int} {t : Tone} (h : (t.len * num) % den ≠ 0) : augE num den t = 16 := by unfold augE; rw [if_pos h]
theorem augE_2 {num den : Int} {t : Tone} (h : (t.len * num) % den = 0) (h2 : 123863040 < t.len * num / den) : augE num den t = 2 := by unfold augE; rw [if_neg (by simpa using h), if_pos h2]
theorem augE_0 {num den : Int} {t : Tone} (h : (t.len * num) % den = 0) (h2 : ¬ 123863040 < t.len * num / den) : augE num den t = 0 := by unfold augE; rw [if_neg (by simpa using h), if_neg h2]

set_option maxHeartbeats 4000000 in
theorem augC (A : Option Addr) (c : Nat) (l : List Tone) (num den : Int) (w : World) (hc : checkL l = 0) (h1 : 1 ≤ num) (h2 : num ≤ 64) (h3 : 1 ≤ den) (h4 : den ≤ 64) (h : SlT w A l) :
    Calls Tryd.prog 14 #[.slice A l.length c, .int .i64 num, .int .i64 den] w fun r w' => AugEnd num den l r w' ∧ Below w.heap.size w w' := by
  obtain ⟨a1, a2, a3⟩ := checkL_zero hc
  have hck := checkC A c l w (by omega) h
  rw [hc] at hck
  have hcl := fun W h => cloneC A c l W a1 a2 h
  have hlen : ∀ k, k < l.length → 1 ≤ (nth l k).len ∧ (nth l k).len ≤ 123863040 := fun k hk => ⟨(toneErr_zero (a3 _ (nth_mem hk))).1, (toneErr_zero (a3 _ (nth_mem hk))).2.1⟩
  have hstep := fun k => augErr_drop (num := num) (den := den) (l := l) (k := k)
  have hend := fun k => augErr_end (num := num) (den := den) l (k := k)
  have hnl : ∃ n, n = l.length := ⟨_, rfl⟩
  obtain ⟨n, hnl⟩ := hnl
  have hnl' : n ≤ l.length := by omega
  have hnl2 : l.length ≤ n := by omega
  rw [← hnl] at hck hcl a1 a2 ⊢
  have hnlH := Lib.hid hnl
  clear hnl
  clear hc a3
  go_enter Tryd.func14, Tryd.ntmps14
  go_wp2_with fail
  refine hck.mono ?_
  rintro e w1 ⟨rfl, hb1⟩
  have h := h.below hb1
  go_wp2_with fail
  refine (hcl w1 h).mono ?_
  rintro e w2 ⟨g, off, c', rfl, g1, g2, g3, g4, hb2⟩
  have B2 := hb1.trans (hb2.mono hb1.size)
  have m0 := Mix.start (num := num) (den := den) g3
  have z1 := hb1.size
  clear g3 hcl hck h hb1 hb2
  go_wp2_with fail
  go_loopw [35] (fun i wr => ∃ k : Nat, k ≤ n ∧ i = .int .i64 k ∧ Aside (augErr num den l = augErr num den (l.drop k)) ∧ Mix wr g off num den l k ∧ (∀ o, wr.frozen? ⟨g, o, none⟩ = false) ∧ Below w.heap.size w wr ∧ g < wr.heap.size) (fun i _ => n - (intOf i).toNat)
  case atStart => exact ⟨0, by omega, rfl, (show Aside (augErr num den l = augErr num den (l.drop 0)) from (rfl : augErr num den l = augErr num den l)), m0, g4, B2, g2⟩
  case round =>
    obtain ⟨k, hk, rfl, hA, hM, hF, hB, hg⟩ := hrel
    by_cases hlt : k < n
    · have hA := hA.out
      rw [hstep k (by omega)] at hA
      obtain ⟨r0, r1, r2, r3, r4⟩ := hM.at (by omega)
      obtain ⟨b1, b2⟩ := hlen k (by omega)
      have hnext := fun q (hq : (nth l k).len * num / den = q) => hM.step (by omega) hq
      have f0 := hF (off + k * 5)
      have x16 := augE_16 (num := num) (den := den) (t := nth l k)
      have x2 := augE_2 (num := num) (den := den) (t := nth l k)
      have x0 := augE_0 (num := num) (den := den) (t := nth l k)
      clear hstep hend hlen hM r1 r2 r3 r4
      generalize augE num den (nth l k) = ae at *
      generalize (nth l k).len = len at *
      have p1 : 1 ≤ len * num := Int.le_trans b1 (by
        have := Int.mul_le_mul_of_nonneg_left h1 (show 0 ≤ len by omega)
        rwa [Int.mul_one] at this)
      have p2 : len * num ≤ 7927234560 := Int.le_trans (Int.mul_le_mul b2 h2 (by omega) (by omega)) (by omega)
      have td : (len * num).tdiv den = len * num / den := Int.tdiv_eq_ediv_of_nonneg (by omega)
      have tm : (len * num).tmod den = len * num % den := Int.tmod_eq_emod_of_nonneg (by omega)
      have q1 : 0 ≤ len * num / den := Int.ediv_nonneg (by omega) (by omega)
      have q2 : len * num / den ≤ 7927234560 := Int.le_trans (Int.ediv_le_self _ (by omega)) p2
      have q3 : 0 ≤ len * num % den := Int.emod_nonneg _ (by omega)
      have q4 : len * num % den < den := Int.emod_lt_of_pos _ (by omega)
      by_cases e1 : len * num % den = 0
      · by_cases e2 : 123863040 < len * num / den
        · rw [x2 e1 e2, if_neg (by omega)] at hA
          have hA' := Lib.hid hA
          clear hA x16 x2 x0 hnext
          go_wp2_with fail
          go_ret2
          exact ⟨AugEnd.off hA'.out (by decide), hB⟩
        · rw [x0 e1 e2, if_pos rfl] at hA
          have hA' := Lib.hid hA
          have hN := Lib.hid (hnext _ rfl)
          clear hA x16 x2 x0 hnext
          go_wp2_with fail
          go_roundw
          case rel => exact ⟨k + 1, by omega, by go_num, (show Aside _ from hA'.out), by simpa [*] using hN.out, by simpa using hF, hB.setCell (p := ⟨g, _, none⟩) (by show _ ≤ g; omega) _, by simpa using hg⟩
          case measure => simp [intOf]; omega
      · rw [x16 e1, if_neg (by omega)] at hA
        have hA' := Lib.hid hA
        clear hA x16 x2 x0 hnext
        go_wp2_with fail
        go_ret2
        exact ⟨AugEnd.off hA'.out (by decide), hB⟩
    · have hA' := Lib.hid (show augErr num den l = 0 by rw [hA.out, hend k (by omega)])
      have hR := Lib.hid (hM.done (by omega))
      clear hA hstep hend hM hlen
      go_wp2_with fail
      go_ret2
      exact ⟨AugEnd.on hA'.out hnlH.out hg hR.out, hB⟩
end Go.Proofs.YtbmnkeihmmcciaaDoor
