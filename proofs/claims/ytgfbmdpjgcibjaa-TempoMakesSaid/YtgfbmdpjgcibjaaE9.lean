/- last, Ticks, Total, find's closure. -/
import Derived.Test.YtgfbmdpjgcibjaaE7
namespace Go.Proofs.Ytgfbmdpjgcibjaa
open Go.RowKit

/-- Below the heap's size all is as it was, and no draw is taken back. -/
def Up (w w' : World) : Prop := Below w.heap.size w w' ∧ w.drawn ≤ w'.drawn
theorem Up.grown {w w' : World} (h : Up w w') : ∃ q os, w' = Go.Sort.grow (w.drewN q) os := by
  obtain ⟨h, hd⟩ := h
  refine ⟨w'.drawn - w.drawn, w'.heap.extract w.heap.size w'.heap.size, ?_⟩
  have hh : w'.heap = w.heap ++ w'.heap.extract w.heap.size w'.heap.size := by
    apply Array.ext'
    simp only [Array.toList_append, Array.toList_extract]
    apply List.ext_getElem?
    intro i
    by_cases hi : i < w.heap.size
    · rw [List.getElem?_append_left (by simpa using hi)]
      have := h.block i hi
      simpa using this
    · rw [List.getElem?_append_right (by simp; omega)]
      simp [List.extract, List.getElem?_take, List.getElem?_drop]
      have e : w.heap.size + (i - w.heap.size) = i := by omega
      rw [e]
      by_cases hc : i - w.heap.size < w'.heap.size - w.heap.size
      · rw [if_pos hc]
      · rw [if_neg hc]
        have := h.size
        exact Array.getElem?_eq_none (by omega)
  have h1 := h.os
  have h2 := h.tape
  have h3 := h.output
  have hd' : w.drawn + (w'.drawn - w.drawn) = w'.drawn := by omega
  show w' = { { w with drawn := w.drawn + (w'.drawn - w.drawn) } with heap := w.heap ++ w'.heap.extract w.heap.size w'.heap.size }
  rw [hd', ← hh, ← h1, ← h2, ← h3]
theorem Up.of_grow {w : World} (q : Nat) (os : Array Obj) : Up w (Go.Sort.grow (w.drewN q) os) := ⟨below_grown_sl _ _ _ _ (Nat.le_refl _), Nat.le_add_right _ _⟩
theorem Up.below {w w' : World} (h : Up w w') : Below w.heap.size w w' := h.1
theorem Up.trans {a b c : World} (h : Up a b) (k : Up b c) : Up a c := ⟨h.1.trans (k.1.mono h.1.size), Nat.le_trans h.2 k.2⟩
theorem Up.drawnN {a b : World} (h : Up a b) (m : Nat) : Up a (b.drewN m) := ⟨below_drewN' h.1 m, Nat.le_trans h.2 (Nat.le_add_right _ _)⟩
theorem Up.drew {a b : World} (h : Up a b) : Up a b.drew := ⟨h.1.drew, Nat.le_trans h.2 (Nat.le_add_right _ _)⟩
theorem Up.alloc {a b : World} (h : Up a b) (o : Obj) : Up a (b.alloc o) := ⟨h.1.alloc h.1.size o, h.2⟩
theorem Up.refl (a : World) : Up a a := ⟨Below.refl _ _, Nat.le_refl _⟩

/-- A map of n stretches at p can be read. -/
structure MapRd (w : World) (p n : Nat) (Y : Nat → St) : Prop where
  lp : p < w.heap.size
  ex : ∃ g cap, w.cell? ⟨p, 0, none⟩ = some (.slice (some ⟨g, 0, none⟩) n cap) ∧ w.cell? ⟨p, 1, none⟩ = some (.slice none 0 0) ∧ g < w.heap.size ∧ RdS w g 0 n Y
theorem MapAt.rd {w : World} {B p n : Nat} {Y : Nat → St} (h : MapAt w B p n Y) : MapRd w p n Y := by
  obtain ⟨h1, _, g, cap, h3, h4, _, h5, h6⟩ := h
  exact ⟨h1, g, cap, h3, h4, h5, h6⟩
theorem MapRd.below {w w' : World} {p n : Nat} {Y : Nat → St} (h : MapRd w p n Y) (hb : Below w.heap.size w w') : MapRd w' p n Y := by
  obtain ⟨h1, g, cap, h3, h4, h5, h6⟩ := h
  have := hb.size
  exact ⟨by omega, g, cap, (hb.cell (p := ⟨p, 0, none⟩) h1).trans h3, (hb.cell (p := ⟨p, 1, none⟩) h1).trans h4, by omega, h6.below hb h5⟩

abbrev stv (x : St) : Value := stV x.b x.e x.f x.t x.m

set_option maxHeartbeats 1000000 in
theorem lastC (p n : Nat) (Y : Nat → St) (w : World) (hn0 : 0 < n) (hn : n ≤ 1000) (h : MapRd w p n Y) :
    Calls Try.prog 34 #[.pointer (some ⟨p, 0, none⟩)] w fun r w' => r = .returned (stv (Y (n - 1))) ∧ Up w w' := by
  obtain ⟨lp, g, cap, h0, h1, lg, hr⟩ := h
  obtain ⟨r0, r1, r2, r3, r4⟩ := hr (n - 1) (by omega)
  simp only [Nat.zero_add] at r0 r1 r2 r3 r4
  have e1 : IntKind.i64.wrap ((n : Int) - 1) = ((n - 1 : Nat) : Int) := by rw [IntWalk.i64_in _ (by omega)]; omega
  have e2 : ((n : Int) == 0) = false := by simp; omega
  generalize hm : n - 1 = m at *
  have hmn : m < n := by omega
  go_enter Try.func34, Try.ntmps34
  go_wp2_with fail
  go_region
  go_wp2_with fail
  go_returns
  exact ⟨rfl, by first | exact ((Up.refl w).alloc _).drew | exact ((Up.refl w).alloc _).drawnN _ | trace_state⟩

set_option maxHeartbeats 1000000 in
theorem untilU (b e f t m tick : Int) (w : World) (h : InS ⟨b, e, f, t, m⟩ tick) :
    Calls Try.prog 33 #[stV b e f t m, .int .i64 tick] w fun r w' => r = .returned (.int .i64 (untilF ⟨b, e, f, t, m⟩ tick)) ∧ Up w w' := by
  obtain ⟨b0, be, e1, f0, f1, t0, t1, k0, k1, m0, m1⟩ := h
  simp only at b0 be e1 f0 f1 t0 t1 k0 k1 m0 m1
  have ib := intF_bd (fr := f) (tp := t) (L := e - b) (k := tick - b) f0 f1 t0 t1 (by omega) (by omega) (by omega)
  go_enter Try.func33, Try.ntmps33
  go_wp2_with fail
  go_quiet ((go_at_call 30; exact Calls.quiet_of (integral f t (e - b) (tick - b) _ f0 f1 t0 t1 (by omega) (by omega) (by omega) (by omega))))
  go_wp2_with fail
  go_ret
  exact ⟨ret_int (by first | rfl | (unfold untilF; simp only []; done) | (unfold untilF; simp only []; omega)), ((Up.refl w).alloc _).drawnN _⟩

set_option maxHeartbeats 1000000 in
theorem ticksC (p n : Nat) (Y : Nat → St) (w : World) (hn0 : 0 < n) (hn : n ≤ 1000) (h : MapRd w p n Y) :
    Calls Try.prog 16 #[.pointer (some ⟨p, 0, none⟩)] w fun r w' => r = .returned (.int .i64 (Y (n - 1)).e) ∧ Up w w' := by
  have hl := lastC p n Y w hn0 hn h
  simp only [stv, stV] at hl
  clear h
  have hfd : ∀ (a b c d e : Int) (w : World), (Instr.field 38 (.agg #[.int .i64 a, .int .i64 b, .int .i64 c, .int .i64 d, .int .i64 e]) 1).run Try.prog w = .ok (.int .i64 b) w := fun _ _ _ _ _ _ => by kernel_rfl
  go_enter Try.func16, Try.ntmps16
  go_wp2_with fail
  refine hl.mono ?_
  rintro e w1 ⟨rfl, hu⟩
  go_wp2_with fail
  go_ret
  exact ⟨rfl, by first | exact hu | exact hu.alloc _⟩

set_option maxHeartbeats 1000000 in
theorem totalC (p n : Nat) (X : Nat → St) (w : World) (hX : Okay X n) (hn : n ≤ 1000) (h : MapRd w p n (timedAt X)) :
    Calls Try.prog 17 #[.pointer (some ⟨p, 0, none⟩)] w fun r w' => r = .returned (.int .i64 (tmF X n)) ∧ Up w w' := by
  have hl := lastC p n _ w hX.n0 hn h
  simp only [stv, stV] at hl
  clear h
  have n0 := hX.n0
  have hb := hX.be (n - 1) (by omega)
  have h0 := hX.begin0 (n - 1) (by omega)
  have hI := hX.inS (n - 1) (by omega) (tick := (X (n - 1)).e) (by omega) (Int.le_refl _)
  have eT : tmF X n = untilF (timedAt X (n - 1)) (X (n - 1)).e := by
    obtain ⟨m, rfl⟩ : ∃ m, n = m + 1 := ⟨n - 1, by omega⟩
    rfl
  rw [eT]
  generalize hm : n - 1 = m at *
  clear eT
  have eb : (timedAt X m).b = (X m).b := rfl
  have ee : (timedAt X m).e = (X m).e := rfl
  have e2 : ((X m).e == 0) = false := by simp; omega
  go_enter Try.func17, Try.ntmps17
  go_wp2_with fail
  refine hl.mono ?_
  rintro e w1 ⟨rfl, hu⟩
  go_wp2_with fail
  refine (untilU _ _ _ _ _ _ _ hI).mono ?_
  rintro e w2 ⟨rfl, hu2⟩
  go_wp2_with fail
  go_ret
  exact ⟨rfl, (hu.alloc _).trans hu2⟩
end Go.Proofs.Ytgfbmdpjgcibjaa
