/- ordered, in the program and in the model. -/
import Derived.Test.YtacoeahipklibaaDoorB4
namespace Go.Proofs.YtacoeahipklibaaDoor
open Go.RowKit Go.Maps

/-- A slice of ids that is not empty lies in a block. -/
theorem SlI.some {w : World} {A : Option Addr} {l : List Id} (h : SlI w A l) {k : Nat} (hk : k < l.length) : ∃ b off, A = Option.some ⟨b, off, none⟩ ∧ b < w.heap.size ∧ RdI w b off l := by
  rcases h with rfl | ⟨_, h⟩
  · simp at hk
  · exact h
theorem ordB_false {base l : List Id} {k : Nat} (hk : k ≤ l.length) (h : os base l k = none) : ordB base l = false := by
  unfold ordB; rw [os_none h _ hk]; rfl
theorem ordB_true {base l : List Id} {last : Int} (h : os base l l.length = some last) : ordB base l = true := by
  unfold ordB; rw [h]; rfl
theorem os_skip {base l : List Id} {k : Nat} {last : Int} (h : os base l k = some last) (hi : idx base (ith l k) < 0) : os base l (k + 1) = some last := by
  unfold os; rw [h]; simp [hi]
theorem os_stop {base l : List Id} {k : Nat} {last : Int} (h : os base l k = some last) (hi : ¬ idx base (ith l k) < 0) (hj : idx base (ith l k) < last) : os base l (k + 1) = none := by
  unfold os; rw [h]; simp [hi, hj]
theorem os_next {base l : List Id} {k : Nat} {last : Int} (h : os base l k = some last) (hi : ¬ idx base (ith l k) < 0) (hj : ¬ idx base (ith l k) < last) : os base l (k + 1) = some (idx base (ith l k)) := by
  unfold os; rw [h]; simp [hi, hj]

set_option maxHeartbeats 4000000 in
theorem orderedM (A : Option Addr) (c : Nat) (base : List Id) (A2 : Option Addr) (d : Nat) (l : List Id) (w : World) (hbl : base.length ≤ 1000) (hl : l.length ≤ 1000) (hb : SlI w A base) (h : SlI w A2 l) :
    Calls Tryd.prog 21 #[.slice A base.length c, .slice A2 l.length d] w fun r w' => r = .returned (.bool (ordB base l)) ∧ Below w.heap.size w w' := by
  have hI := fun x w h => indexC A c base x w hbl h
  generalize hbn : base.length = bn at *
  generalize hn : l.length = n at *
  go_enter Tryd.func21, Tryd.ntmps21
  go_wp2_with fail
  go_loopw [5, 6] (fun s i wr => ∃ (k : Nat) (last : Int), k ≤ n ∧ i = .int .i64 k ∧ s = .int .i64 last ∧ Aside (os base l k = some last) ∧ Below w.heap.size w wr) (fun _ i _ => n - (intOf i).toNat)
  case atStart => exact ⟨0, -1, by omega, rfl, rfl, (show Aside _ from rfl), Below.refl _ w⟩
  case round =>
    obtain ⟨k, last, hk, rfl, rfl, hA, hB⟩ := hrel
    have hz := hB.size
    by_cases hlt : k < n
    · obtain ⟨b, off, rfl, hlb, hr⟩ := h.some (k := k) (by omega)
      obtain ⟨r0, r1⟩ := hr.below hB hlb k (by omega)
      have hx := hI (ith l k) wr (hb.below hB)
      have hA := hA.out
      have h1 := fun hi => Lib.hid (os_skip hA hi)
      have h2 := fun hi hj => Lib.hid (os_stop hA hi hj)
      have h3 := fun hi hj => Lib.hid (os_next hA hi hj)
      clear hA
      generalize idx base (ith l k) = I at *
      by_cases hi : I < 0
      · have e1 : decide (0 ≤ I) = false := decide_eq_false (by omega)
        have g1 := h1 hi
        clear h1 h2 h3
        go_wp2_with fail
        refine hx.mono ?_
        rintro e w1 ⟨rfl, hb1⟩
        have hz1 := hb1.size
        go_wp2_with fail
        go_roundw
        case rel => exact ⟨k + 1, last, by omega, by go_num, rfl, (show Aside _ from g1.out), hB.trans (hb1.mono hz)⟩
        case measure => simp [intOf]; omega
      · have e1 : decide (0 ≤ I) = true := decide_eq_true (by omega)
        by_cases hj : I < last
        · have e2 : decide (I < last) = true := decide_eq_true hj
          have g2 := h2 hi hj
          clear h1 h2 h3
          go_wp2_with fail
          refine hx.mono ?_
          rintro e w1 ⟨rfl, hb1⟩
          go_wp2_with fail
          go_ret
          exact ⟨by rw [ordB_false (by omega) g2.out]; rfl, hB.trans (hb1.mono hz)⟩
        · have e2 : decide (I < last) = false := decide_eq_false hj
          have g3 := h3 hi hj
          clear h1 h2 h3
          go_wp2_with fail
          refine hx.mono ?_
          rintro e w1 ⟨rfl, hb1⟩
          go_wp2_with fail
          go_roundw
          case rel => exact ⟨k + 1, I, by omega, by go_num, rfl, (show Aside _ from g3.out), hB.trans (hb1.mono hz)⟩
          case measure => simp [intOf]; omega
    · obtain rfl : k = n := by omega
      have hA := hA.out
      rw [← hn] at hA
      have hA := Lib.hid (ordB_true hA)
      go_wp2_with fail
      go_ret
      exact ⟨by rw [hA.out]; rfl, hB⟩

/-- What the table of places holds after k rounds. -/
def Fk (base : List Id) (k : Nat) (x : Id) : Option Int := if 0 ≤ idx base x ∧ idx base x < k then some (idx base x) else none
theorem Fk_zero (base : List Id) : Fk base 0 = fun _ => none := by
  funext x; unfold Fk; rw [if_neg (by omega)]
theorem Fk_step {base : List Id} (h : base.Nodup) {k : Nat} (hk : k < base.length) : (fun y => if y = ith base k then some (k : Int) else Fk base k y) = Fk base (k + 1) := by
  funext y
  unfold Fk
  by_cases e : y = ith base k
  · subst e
    rw [if_pos rfl, idx_nodup h hk, if_pos (by omega)]
  · rw [if_neg e]
    have hne : idx base y ≠ k := by
      intro hh
      have hy : y ∈ base := idx_nonneg.1 (by omega)
      obtain ⟨j, hj, rfl⟩ := mem_ith hy
      rw [idx_nodup h hj] at hh
      obtain rfl : j = k := by omega
      exact e rfl
    by_cases c : 0 ≤ idx base y ∧ idx base y < k
    · rw [if_pos c, if_pos (by omega)]
    · rw [if_neg c, if_neg (by omega)]
theorem Fk_all (base : List Id) (x : Id) : (Fk base base.length x).getD 0 = (if 0 ≤ idx base x then idx base x else 0) ∧ (Fk base base.length x).isSome = decide (0 ≤ idx base x) := by
  have := idx_bd base x
  unfold Fk
  by_cases c : 0 ≤ idx base x
  · rw [if_pos ⟨c, this.2⟩, if_pos c]; simp [c]
  · rw [if_neg (by omega), if_neg c]; simp [c]

set_option maxHeartbeats 4000000 in
theorem orderedP (A : Option Addr) (c : Nat) (base : List Id) (A2 : Option Addr) (d : Nat) (l : List Id) (w : World) (hnd : base.Nodup) (hbl : base.length ≤ 1000) (hl : l.length ≤ 1000) (hb : SlI w A base) (h : SlI w A2 l) :
    Calls Tryd.prog 17 #[.slice A base.length c, .slice A2 l.length d] w fun r w' => r = .returned (.bool (ordB base l)) ∧ Below w.heap.size w w' := by
  have hF := fun x => Fk_all base x
  generalize hbn : base.length = bn at *
  generalize hn : l.length = n at *
  have hmm := @run_makeMap Tryd.prog
  go_enter Tryd.func17, Tryd.ntmps17
  go_wp2_with fail
  go_loopw [16] (fun i wr => ∃ k : Nat, k ≤ bn ∧ i = .int .i64 k ∧ MI wr w.heap.size k (Fk base k) ∧ Below w.heap.size w wr ∧ w.heap.size < wr.heap.size) (fun i _ => bn - (intOf i).toNat)
  case atStart => exact ⟨0, by omega, rfl, by rw [Fk_zero]; exact MI.made w, (Below.refl _ w).alloc (Nat.le_refl _) _, by simp⟩
  case round =>
    obtain ⟨k, hk, rfl, hMI, hB, hz⟩ := hrel
    by_cases hlt : k < bn
    · obtain ⟨b, off, rfl, hlb, hr⟩ := hb.some (k := k) (by omega)
      obtain ⟨r0, r1⟩ := hr.below hB hlb k (by omega)
      have hst := Lib.hid (Fk_step hnd (k := k) (by omega))
      generalize ith base k = x at *
      have hMI1 := hMI.alloc (.cells #[.int .i64 x.s, .int .i64 x.n] 30)
      go_wp2_with (at_mapUpdate; refine wpList_putMI _ rfl _ _ _ rfl w.heap.size k _ x k (WalkArith.wf_i64 (by omega)) rfl hMI1 (by unfold maxLen; omega) rfl rfl ?_; intro w1 hMI2 hgrow)
      go_roundw
      case rel =>
        have hs := hgrow.size
        rw [World.size_alloc] at hs
        exact ⟨k + 1, by omega, by go_num, by rw [hst.out] at hMI2; exact hMI2, (hB.alloc (by omega) _).grown hgrow (by simp; omega) (fun j hj => by cases hj; exact Nat.le_refl _), by omega⟩
      case measure => simp [intOf]; omega
    · obtain rfl : k = bn := by omega
      clear hlt hk hb hbl hnd
      go_wp2_with fail
      go_loopw [8, 27] (fun s i wq => ∃ (j : Nat) (last : Int), j ≤ n ∧ i = .int .i64 j ∧ s = .int .i64 last ∧ Aside (os base l j = some last) ∧ MI wq w.heap.size k (Fk base k) ∧ Below w.heap.size w wq ∧ w.heap.size < wq.heap.size) (fun _ i _ => n - (intOf i).toNat)
      case atStart => exact ⟨0, -1, by omega, rfl, rfl, (show Aside _ from rfl), hMI, hB, hz⟩
      case round =>
        clear hMI hB hz
        obtain ⟨j, last, hj, rfl, rfl, hA, hMI, hB, hz⟩ := hrel
        by_cases hlt : j < n
        · obtain ⟨b, off, rfl, hlb, hr⟩ := h.some (k := j) (by omega)
          obtain ⟨r0, r1⟩ := hr.below hB hlb j (by omega)
          have hA := hA.out
          have h1 := fun hi => Lib.hid (os_skip hA hi)
          have h2 := fun hi hj => Lib.hid (os_stop hA hi hj)
          have h3 := fun hi hj => Lib.hid (os_next hA hi hj)
          have hFx := hF (ith l j)
          clear hA hF
          generalize ith l j = x at *
          have hMI1 := hMI.alloc (.cells #[.int .i64 x.s, .int .i64 x.n] 30)
          generalize idx base x = I at *
          by_cases hi : I < 0
          · have g1 := h1 hi
            have e1 : (Fk base k x).isSome = false := by rw [hFx.2]; exact decide_eq_false (by omega)
            clear h1 h2 h3
            go_wp2_with (at_lookup; refine wpList_lookMI _ rfl _ _ rfl w.heap.size k _ x rfl hMI1 rfl ?_; rw [e1])
            go_roundw
            case rel => exact ⟨j + 1, last, by omega, by go_num, rfl, (show Aside _ from g1.out), hMI1, hB.alloc (by omega) _, by simp; omega⟩
            case measure => simp [intOf]; omega
          · have e1 : (Fk base k x).isSome = true := by rw [hFx.2]; exact decide_eq_true (by omega)
            have e0 : (Fk base k x).getD 0 = I := by rw [hFx.1, if_pos (by omega)]
            by_cases hj2 : I < last
            · have e2 : decide (I < last) = true := decide_eq_true hj2
              have g2 := h2 hi hj2
              clear h1 h2 h3
              go_wp2_with (at_lookup; refine wpList_lookMI _ rfl _ _ rfl w.heap.size k _ x rfl hMI1 rfl ?_; rw [e1, e0])
              go_ret
              exact ⟨by rw [ordB_false (by omega) g2.out]; rfl, hB.alloc (by omega) _⟩
            · have e2 : decide (I < last) = false := decide_eq_false hj2
              have g3 := h3 hi hj2
              clear h1 h2 h3
              go_wp2_with (at_lookup; refine wpList_lookMI _ rfl _ _ rfl w.heap.size k _ x rfl hMI1 rfl ?_; rw [e1, e0])
              go_roundw
              case rel => exact ⟨j + 1, I, by omega, by go_num, rfl, (show Aside _ from g3.out), hMI1, hB.alloc (by omega) _, by simp; omega⟩
              case measure => simp [intOf]; omega
        · obtain rfl : j = n := by omega
          have hA := hA.out
          rw [← hn] at hA
          have hA := Lib.hid (ordB_true hA)
          go_wp2_with fail
          go_ret
          exact ⟨by rw [hA.out]; rfl, hB⟩
end Go.Proofs.YtacoeahipklibaaDoor
