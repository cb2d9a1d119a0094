/- Stretches: how they lie, what is right, until. -/
import Derived.Test.YtgfbmdpjgcibjaaE4
import Derived.Test.YtgfbmdpjgcibjaaRel
import Derived.Deep.AppendLies
import Derived.Deep.RegionHeld3
import Derived.Deep.DrawnRows
import Derived.RegionTactic
import Derived.ChangeAlike
namespace Go.Proofs.Ytgfbmdpjgcibjaa
open Go.RowKit

structure St where
  (b e f t m : Int)
def encSt (x : St) : List Value := [.int .i64 x.b, .int .i64 x.e, .int .i64 x.f, .int .i64 x.t, .int .i64 x.m]
abbrev stV (b e f t m : Int) : Value := .agg #[.int .i64 b, .int .i64 e, .int .i64 f, .int .i64 t, .int .i64 m]
def stAt (l : List St) (k : Nat) : St := l.getD k ⟨0, 0, 0, 0, 0⟩

theorem opensSt {H : Type} (enc : TypeId × Value → H) : Opens enc Try.prog (relFlat encSt) 38 := by
  intro w base spare held fuel cs x h
  have hf := fits_of_trod 3 (show flatK Try.prog 3 38 = some [true, true, true, true, true] by kernel_rfl) _ _ _ _ _ _ _ h
  match cs, fits_len hf, hf with
  | [_, _, _, _, _], _, ⟨⟨b, rfl, _⟩, ⟨e, rfl, _⟩, ⟨f, rfl, _⟩, ⟨t, rfl, _⟩, ⟨m, rfl, _⟩, _⟩ => exact ⟨⟨b, e, f, t, m⟩, rfl⟩

/-- From an offset of a block on lie n stretches, the k-th being X k. -/
def RdS (w : World) (b off n : Nat) (X : Nat → St) : Prop := ∀ k, k < n →
    w.cell? ⟨b, off + k * 5, none⟩ = some (.int .i64 (X k).b) ∧ w.cell? ⟨b, off + k * 5 + 1, none⟩ = some (.int .i64 (X k).e) ∧ w.cell? ⟨b, off + k * 5 + 2, none⟩ = some (.int .i64 (X k).f) ∧
      w.cell? ⟨b, off + k * 5 + 3, none⟩ = some (.int .i64 (X k).t) ∧ w.cell? ⟨b, off + k * 5 + 4, none⟩ = some (.int .i64 (X k).m)
theorem RdS.below {w w' : World} {B b off n : Nat} {X : Nat → St} (h : RdS w b off n X) (hb : Below B w w') (hB : b < B) : RdS w' b off n X := by
  intro k hk
  obtain ⟨h1, h2, h3, h4, h5⟩ := h k hk
  exact ⟨(hb.cell (p := ⟨b, _, none⟩) hB).trans h1, (hb.cell (p := ⟨b, _, none⟩) hB).trans h2, (hb.cell (p := ⟨b, _, none⟩) hB).trans h3, (hb.cell (p := ⟨b, _, none⟩) hB).trans h4, (hb.cell (p := ⟨b, _, none⟩) hB).trans h5⟩
theorem RdS.drewN {w : World} {b off n : Nat} {X : Nat → St} (h : RdS w b off n X) (m : Nat) : RdS (w.drewN m) b off n X := h
theorem RdS.of {w : World} {b off n : Nat} {l : List St} {B : Nat} (hn : l.length = n) (h : ∀ i (h : i < l.length), ∃ c, c.length = 5 ∧ At w b (off + i * 5) c ∧ relFlat encSt w B l[i] c) : RdS w b off n (stAt l) := by
  intro k hk
  have hk' : k < l.length := by omega
  obtain ⟨c, _, h1, h2⟩ := h k hk'
  have e : stAt l k = l[k] := by simp [stAt, List.getD, hk']
  rw [e]
  rw [h2] at h1
  exact ⟨h1 0 _ rfl, h1 1 _ rfl, h1 2 _ rfl, h1 3 _ rfl, h1 4 _ rfl⟩

theorem intF_bd {fr tp L k : Int} (f0 : 1 ≤ fr) (f1 : fr ≤ 60000000) (t0 : 1 ≤ tp) (t1 : tp ≤ 60000000) (L0 : 1 ≤ L) (k0 : 0 ≤ k) (k1 : k ≤ L) : 0 ≤ intF fr tp L k ∧ intF fr tp L k ≤ 125 * k := by
  have p1 : 0 ≤ fr * (2 * L - k) := Int.mul_nonneg (by omega) (by omega)
  have p2 : 0 ≤ tp * k := Int.mul_nonneg (by omega) k0
  have A1 : fr * (2 * L - k) + tp * k ≤ 60000000 * (2 * L) := by
    have a1 : fr * (2 * L - k) ≤ 60000000 * (2 * L - k) := Int.mul_le_mul_of_nonneg_right f1 (by omega)
    have a2 : tp * k ≤ 60000000 * k := Int.mul_le_mul_of_nonneg_right t1 k0
    omega
  unfold intF
  refine ⟨Int.ediv_nonneg (Int.mul_nonneg k0 (by omega)) (by omega), ?_⟩
  have h1 : k * (fr * (2 * L - k) + tp * k) ≤ k * (60000000 * (2 * L)) := Int.mul_le_mul_of_nonneg_left A1 k0
  have h2 : k * (60000000 * (2 * L)) ≤ 125 * k * (2 * L * 483840) := by
    have e1 : k * (60000000 * (2 * L)) = k * (2 * L) * 60000000 := by rw [Int.mul_comm 60000000, ← Int.mul_assoc]
    have e2 : 125 * k * (2 * L * 483840) = k * (2 * L) * 60480000 := by
      rw [Int.mul_comm 125 k, Int.mul_assoc k, ← Int.mul_assoc 125, Int.mul_comm 125 (2 * L), Int.mul_assoc (2 * L), ← Int.mul_assoc k]
      rfl
    have e3 : 0 ≤ k * (2 * L) := Int.mul_nonneg k0 (by omega)
    omega
  exact Int.ediv_le_of_le_mul (by omega) (by omega)

/-- When a tick of a stretch is. -/
def untilF (x : St) (tick : Int) : Int := x.m + intF x.f x.t (x.e - x.b) (tick - x.b)

/-- A right stretch and a tick in it. -/
structure InS (x : St) (tick : Int) : Prop where
  b0 : 0 ≤ x.b
  be : x.b < x.e
  e1 : x.e ≤ 4398046511104
  f0 : 1 ≤ x.f
  f1 : x.f ≤ 60000000
  t0 : 1 ≤ x.t
  t1 : x.t ≤ 60000000
  k0 : x.b ≤ tick
  k1 : tick ≤ x.e
  m0 : 0 ≤ x.m
  m1 : x.m ≤ 549755813888000

theorem bcell {W w1 : World} (hb : Below W.heap.size W w1) : (∀ b o, b < W.heap.size → w1.cell? ⟨b, o, none⟩ = W.cell? ⟨b, o, none⟩) ∧ (∀ b o, b < W.heap.size → w1.frozen? ⟨b, o, none⟩ = W.frozen? ⟨b, o, none⟩) :=
  ⟨fun b o h => hb.cell (p := ⟨b, o, none⟩) h, fun b o h => hb.frozen (p := ⟨b, o, none⟩) h⟩
theorem bstep {w W w1 : World} (h : Below w.heap.size w W) (hb : Below W.heap.size W w1) : Below w.heap.size w w1 := h.trans (hb.mono h.size)
theorem below_drewN' {B : Nat} {a w : World} (h : Below B a w) (n : Nat) : Below B a (w.drewN n) := ⟨h.os, h.tape, h.output, h.size, h.block⟩

set_option maxHeartbeats 1000000 in
theorem untilC (b e f t m tick : Int) (w : World) (h : InS ⟨b, e, f, t, m⟩ tick) :
    Calls Try.prog 33 #[stV b e f t m, .int .i64 tick] w fun r w' => r = .returned (.int .i64 (untilF ⟨b, e, f, t, m⟩ tick)) ∧ Below w.heap.size w w' := by
  obtain ⟨b0, be, e1, f0, f1, t0, t1, k0, k1, m0, m1⟩ := h
  simp only at b0 be e1 f0 f1 t0 t1 k0 k1 m0 m1
  have ib := intF_bd (fr := f) (tp := t) (L := e - b) (k := tick - b) f0 f1 t0 t1 (by omega) (by omega) (by omega)
  go_enter Try.func33, Try.ntmps33
  go_wp2_with fail
  go_quiet ((go_at_call 30; exact Calls.quiet_of (integral f t (e - b) (tick - b) _ f0 f1 t0 t1 (by omega) (by omega) (by omega) (by omega))))
  go_wp2_with fail
  go_ret
  exact ⟨ret_int (by first | rfl | (unfold untilF; simp only []; done) | (unfold untilF; simp only []; omega)), by first | exact below_drewN' ((Below.refl _ _).alloc (Nat.le_refl _) _) _ | go_grown⟩
end Go.Proofs.Ytgfbmdpjgcibjaa
