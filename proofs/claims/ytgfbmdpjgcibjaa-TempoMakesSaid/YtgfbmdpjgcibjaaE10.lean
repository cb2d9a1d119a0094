/- find, Micros. -/
import Derived.Test.YtgfbmdpjgcibjaaE9
import Derived.Laws.ResultCell
namespace Go.Proofs.Ytgfbmdpjgcibjaa
open Go.RowKit

theorem cnt_spec (p : Nat → Bool) : ∀ n, (∀ a b, a ≤ b → b < n → p a = true → p b = true) →
    (∀ i, i < (List.range n).countP (fun i => !p i) → p i = false) ∧ (∀ i, (List.range n).countP (fun i => !p i) ≤ i → i < n → p i = true) ∧ (List.range n).countP (fun i => !p i) ≤ n
  | 0, _ => ⟨fun i hi => by simp at hi, fun i _ hi => by omega, by simp⟩
  | n + 1, h => by
    obtain ⟨h1, h2, h3⟩ := cnt_spec p n (fun a b hab hb => h a b hab (by omega))
    rw [List.range_succ, List.countP_append]
    cases hp : p n
    · have e : (List.range n).countP (fun i => !p i) = n := by
        rw [List.countP_eq_length.mpr, List.length_range]
        intro a ha
        have ha := List.mem_range.mp ha
        cases hpa : p a
        · rfl
        · rw [h a n (by omega) (by omega) hpa] at hp; cases hp
      rw [e]
      have e1 : List.countP (fun i => !p i) [n] = 1 := by simp [hp]
      rw [e1]
      refine ⟨fun i hi => ?_, fun i h4 h5 => by omega, by omega⟩
      by_cases hin : i = n
      · rw [hin]; exact hp
      · exact h1 i (by omega)
    · have e1 : List.countP (fun i => !p i) [n] = 0 := by simp [hp]
      rw [e1]
      refine ⟨fun i hi => h1 i (by omega), fun i h4 h5 => ?_, by omega⟩
      by_cases hin : i = n
      · rw [hin]; exact hp
      · exact h2 i (by omega) (by omega)

theorem Okay.asc {X : Nat → St} {n : Nat} (h : Okay X n) (a : Nat) : ∀ d, a + d < n → (X a).b ≤ (X (a + d)).b
  | 0, _ => Int.le_refl _
  | d + 1, hd => by
    have h1 := h.asc a d (by omega)
    have h2 := h.be (a + d) (by omega)
    have h3 := h.nx (a + d) (by omega)
    rw [show a + (d + 1) = a + d + 1 by omega]
    omega
theorem Okay.mono {X : Nat → St} {n : Nat} (h : Okay X n) (tick : Int) : ∀ a b, a ≤ b → b < n → decide (tick < (X a).b) = true → decide (tick < (X b).b) = true := by
  intro a b hab hb h1
  have h2 := h.asc a (b - a) (by omega)
  rw [show a + (b - a) = b by omega] at h2
  simp at h1 ⊢
  omega
/-- Which stretch a tick is in. -/
def kF (X : Nat → St) (n : Nat) (tick : Int) : Nat := (List.range n).countP (fun i => !decide (tick < (X i).b)) - 1
theorem kF_spec {X : Nat → St} {n : Nat} (h : Okay X n) {tick : Int} (h0 : 0 ≤ tick) (h1 : tick ≤ (X (n - 1)).e) :
    (List.range n).countP (fun i => !decide (tick < (X i).b)) = kF X n tick + 1 ∧ kF X n tick < n ∧ (X (kF X n tick)).b ≤ tick ∧ tick ≤ (X (kF X n tick)).e ∧ (kF X n tick + 1 < n → tick < (X (kF X n tick)).e) := by
  obtain ⟨c1, c2, c3⟩ := cnt_spec (fun i => decide (tick < (X i).b)) n (h.mono tick)
  have n0 := h.n0
  have hc : 0 < (List.range n).countP (fun i => !decide (tick < (X i).b)) := by
    rcases Nat.eq_zero_or_pos ((List.range n).countP (fun i => !decide (tick < (X i).b))) with h2 | h2
    · have := c2 0 (by omega) n0
      rw [h.b0] at this
      simp at this
      omega
    · exact h2
  unfold kF
  generalize (List.range n).countP (fun i => !decide (tick < (X i).b)) = c at *
  have d1 := c1 (c - 1) (by omega)
  simp at d1
  have d2 : c - 1 + 1 < n → tick < (X (c - 1)).e := by
    intro hlt
    have e := h.nx (c - 1) hlt
    have d3 := c2 (c - 1 + 1) (by omega) hlt
    rw [e] at d3
    simpa using d3
  refine ⟨by omega, by omega, d1, ?_, d2⟩
  by_cases hlt : c - 1 + 1 < n
  · have := d2 hlt; omega
  · rw [show c - 1 = n - 1 by omega]; exact h1

set_option maxHeartbeats 1000000 in
theorem closC (ba bx p n : Nat) (Y : Nat → St) (tick : Int) (i : Nat) (w : World) (hi : i < n) (hp : w.cell? ⟨ba, 0, none⟩ = some (.pointer (some ⟨p, 0, none⟩))) (hx : w.cell? ⟨bx, 0, none⟩ = some (.int .i64 tick)) (hM : MapRd w p n Y) :
    Calls Try.prog 48 (#[.int .i64 i] ++ #[.pointer (some ⟨ba, 0, none⟩), .pointer (some ⟨bx, 0, none⟩)]) w fun r w' => r = .returned (.bool (decide (tick < (Y i).b))) ∧ ∃ q, w' = w.drewN q := by
  obtain ⟨lp, g, cap, h0, h1, lg, hr⟩ := hM
  obtain ⟨r0, r1, r2, r3, r4⟩ := hr i hi
  simp only [Nat.zero_add] at r0 r1 r2 r3 r4
  have hiz : (i : Int) < (n : Int) := by omega
  go_enter Try.func48, Try.ntmps48
  go_wp2_with fail
  go_quiet (fail)
  go_wp2_with fail
  go_ret
  exact ⟨rfl, _, rfl⟩

theorem Up.setCell {a b : World} (h : Up a b) {p : Addr} (hp : a.heap.size ≤ p.block) (u : Value) : Up a (b.setCell p u) := ⟨h.1.setCell hp u, h.2⟩
theorem Up.set5 {a b : World} (h : Up a b) {B : Nat} (hp : a.heap.size ≤ B) (u v x y z : Value) : Up a (((((b.setCell ⟨B, 0, none⟩ u).setCell ⟨B, 1, none⟩ v).setCell ⟨B, 2, none⟩ x).setCell ⟨B, 3, none⟩ y).setCell ⟨B, 4, none⟩ z) :=
  ((((h.setCell (p := ⟨B, 0, none⟩) hp _).setCell (p := ⟨B, 1, none⟩) hp _).setCell (p := ⟨B, 2, none⟩) hp _).setCell (p := ⟨B, 3, none⟩) hp _).setCell (p := ⟨B, 4, none⟩) hp _
theorem MapRd.drew {w : World} {p n : Nat} {Y : Nat → St} (h : MapRd w p n Y) : MapRd w.drew p n Y := h.below ((Up.refl w).drew).1
/-- The world in which find works. -/
def W3 (w : World) (p : Nat) (tick : Int) : World :=
  ((w.alloc (.cells #[.pointer (some ⟨p, 0, none⟩)] 32)).alloc (.cells #[.int .i64 tick] 3)).alloc (.cells #[.int .i64 0, .int .i64 0, .int .i64 0, .int .i64 0, .int .i64 0] 38)
theorem W3_up (w : World) (p : Nat) (tick : Int) : Up w (W3 w p tick) := (((Up.refl w).alloc _).alloc _).alloc _
theorem W3_0 (w : World) (p : Nat) (tick : Int) : (W3 w p tick).cell? ⟨w.heap.size, 0, none⟩ = some (.pointer (some ⟨p, 0, none⟩)) := by unfold W3; simp [go_sem]
theorem W3_1 (w : World) (p : Nat) (tick : Int) : (W3 w p tick).cell? ⟨w.heap.size + 1, 0, none⟩ = some (.int .i64 tick) := by unfold W3; simp [go_sem]

theorem W3_2 (w : World) (p : Nat) (tick : Int) : (W3 w p tick).cell? ⟨w.heap.size + 1 + 1, 0, none⟩ = some (.int .i64 0) ∧ (W3 w p tick).cell? ⟨w.heap.size + 1 + 1, 1, none⟩ = some (.int .i64 0) ∧ (W3 w p tick).cell? ⟨w.heap.size + 1 + 1, 2, none⟩ = some (.int .i64 0) ∧
    (W3 w p tick).cell? ⟨w.heap.size + 1 + 1, 3, none⟩ = some (.int .i64 0) ∧ (W3 w p tick).cell? ⟨w.heap.size + 1 + 1, 4, none⟩ = some (.int .i64 0) ∧ (∀ j, (W3 w p tick).frozen? ⟨w.heap.size + 1 + 1, j, none⟩ = false) := by
  unfold W3
  refine ⟨?_, ?_, ?_, ?_, ?_, ?_⟩
  all_goals (try intro j)
  all_goals simp [go_sem]
theorem W3_size (w : World) (p : Nat) (tick : Int) : (W3 w p tick).heap.size = w.heap.size + 3 := by simp [W3]
/-- What a callee leaves of it. -/
theorem W3_rest {w w3 : World} {p : Nat} {tick : Int} (h : Below (W3 w p tick).heap.size (W3 w p tick) w3) :
    w3.cell? ⟨w.heap.size, 0, none⟩ = some (.pointer (some ⟨p, 0, none⟩)) ∧ w3.cell? ⟨w.heap.size + 1 + 1, 0, none⟩ = some (.int .i64 0) ∧ w3.cell? ⟨w.heap.size + 1 + 1, 1, none⟩ = some (.int .i64 0) ∧ w3.cell? ⟨w.heap.size + 1 + 1, 2, none⟩ = some (.int .i64 0) ∧
    w3.cell? ⟨w.heap.size + 1 + 1, 3, none⟩ = some (.int .i64 0) ∧ w3.cell? ⟨w.heap.size + 1 + 1, 4, none⟩ = some (.int .i64 0) ∧ (∀ j, w3.frozen? ⟨w.heap.size + 1 + 1, j, none⟩ = false) := by
  obtain ⟨a0, a1, a2, a3, a4, af⟩ := W3_2 w p tick
  have hz := W3_size w p tick
  exact ⟨(h.cell (p := ⟨_, _, none⟩) (by simp; omega)).trans (W3_0 w p tick), (h.cell (p := ⟨_, _, none⟩) (by simp; omega)).trans a0, (h.cell (p := ⟨_, _, none⟩) (by simp; omega)).trans a1, (h.cell (p := ⟨_, _, none⟩) (by simp; omega)).trans a2,
    (h.cell (p := ⟨_, _, none⟩) (by simp; omega)).trans a3, (h.cell (p := ⟨_, _, none⟩) (by simp; omega)).trans a4, fun j => (h.frozen (p := ⟨_, _, none⟩) (by simp; omega)).trans (af j)⟩

set_option maxHeartbeats 2000000 in
theorem findBad (p n : Nat) (X : Nat → St) (tick : Int) (w : World) (hX : Okay X n) (hn : n ≤ 1000) (hM : MapRd w p n (timedAt X)) (h : tick < 0 ∨ (X (n - 1)).e < tick) :
    Calls Try.prog 32 #[.pointer (some ⟨p, 0, none⟩), .int .i64 tick] w fun r w' => r = .returned (.tuple #[stV 0 0 0 0 0, .int .i64 2]) ∧ Up w w' := by
  have lp := hM.lp
  have hM3 : MapRd (W3 w p tick) p n (timedAt X) := hM.below (W3_up w p tick).1
  obtain ⟨lp3, g, cap, h0, h1, lg, hr⟩ := hM3
  have hM3 : MapRd (W3 w p tick) p n (timedAt X) := ⟨lp3, g, cap, h0, h1, lg, hr⟩
  have n0 := hX.n0
  have e2 : ((n : Int) == 0) = false := by simp; omega
  have c0 := W3_0 w p tick
  have c1 := W3_1 w p tick
  by_cases ht : tick < 0
  · clear h
    simp only [W3] at h0 c0 c1
    go_enter Try.func32, Try.ntmps32
    go_wp2_with fail
    go_quiet (fail)
    go_wp2_with fail
    go_returns
    exact ⟨rfl, ((((Up.refl w).alloc _).alloc _).alloc _).drawnN _ |>.set5 (by omega) _ _ _ _ _⟩
  · have h2 : (X (n - 1)).e < tick := by omega
    clear h
    have e3 : decide (tick < 0) = false := decide_eq_false ht
    have hT : ∀ w', MapRd w' p n (timedAt X) → Calls Try.prog 16 #[.pointer (some ⟨p, 0, none⟩)] w' fun r w'' => r = .returned (.int .i64 (X (n - 1)).e) ∧ Up w' w'' := fun w' h => ticksC p n (timedAt X) w' n0 hn h
    simp only [W3] at h0 c0 c1 hM3
    go_enter Try.func32, Try.ntmps32
    go_wp2_with fail
    go_region_held3 (fun w' => w'.cell? ⟨w.heap.size, 0, none⟩ = some (.pointer (some ⟨p, 0, none⟩)) ∧ w'.cell? ⟨w.heap.size + 1, 0, none⟩ = some (.int .i64 tick) ∧ w'.cell? ⟨p, 0, none⟩ = some (.slice (some ⟨g, 0, none⟩) n cap) ∧ MapRd w' p n (timedAt X))
      (first | (refine ⟨?_, ?_, ?_, ?_⟩ <;> first | assumption | (exact MapRd.drew hM3) | exact c0 | exact c1 | exact h0) | (exact ⟨(hc3 _ _ (by first | (simp; done) | (simp; omega))).trans (by first | assumption | exact c0), (hc3 _ _ (by first | (simp; done) | (simp; omega))).trans (by first | assumption | exact c1), (hc3 _ _ (by first | (simp; done) | (simp; omega))).trans (by first | assumption | exact h0), MapRd.below (by first | assumption | exact hM3.drew) hu3.1⟩))
      ((go_at_call 16; refine (hT _ (by first | assumption | exact hM3.drew | (go_split_ands; assumption))).mono ?_; rintro e w3 ⟨rfl, hu3⟩; obtain ⟨hc3, hf3⟩ := bcell hu3.1))
    have hu : Up w w3 := (W3_up w p tick).trans ((Up.refl _).drew.trans hu3)
    have hb4 : Below (W3 w p tick).heap.size (W3 w p tick) w3 := ⟨hu3.1.os, hu3.1.tape, hu3.1.output, hu3.1.size, hu3.1.block⟩
    obtain ⟨b0, a0, a1, a2, a3, a4, af⟩ := W3_rest hb4
    clear hb4
    go_wp2_with fail
    refine bodyPost_ret (v := .tuple #[stV 0 0 0 0 0, .int .i64 2]) ?_ rfl ⟨rfl, hu.set5 (B := w.heap.size + 1 + 1) (by omega) _ _ _ _ _⟩
    rw [results_cell_tmp rfl]
    simp [go_sem, a0, a1, a2, a3, a4]
end Go.Proofs.Ytgfbmdpjgcibjaa
