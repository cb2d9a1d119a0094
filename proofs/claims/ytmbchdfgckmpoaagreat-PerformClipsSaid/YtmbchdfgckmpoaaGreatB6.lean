/- Length and Range of played notes. -/
import Derived.Test.YtmbchdfgckmpoaaGreatB5
namespace Go.Proofs.YtmbchdfgckmpoaaGreat
open Go.RowKit Go.Sort

theorem fieldO (a b c d e f g : Int) (w : World) : (Instr.field 30 (.agg #[.int .i64 a, .int .i64 b, .int .i64 c, .int .i64 d, .int .i64 e, .int .i64 f, .int .i64 g]) 1).run Tryz.prog w = .ok (.int .i64 b) w := by kernel_rfl
theorem fieldN (a b c d e f g : Int) (w : World) : (Instr.field 30 (.agg #[.int .i64 a, .int .i64 b, .int .i64 c, .int .i64 d, .int .i64 e, .int .i64 f, .int .i64 g]) 2).run Tryz.prog w = .ok (.int .i64 c) w := by kernel_rfl
theorem eg25 : ∀ args w, (callFunc 25 args).run Tryz.prog w = .ok (.enter 25 args) w := by
  intro args w
  first | simp [go_sem] | rfl
theorem eg28 : ∀ args w, (callFunc 28 args).run Tryz.prog w = .ok (.enter 28 args) w := by
  intro args w
  first | simp [go_sem] | rfl
def offF (x y : Ply) : Int := cmpI x.f y.f
def numF (x y : Ply) : Int := cmpI x.n y.n
def lenF (l : List Ply) : Int := if l.length < 1 then 0 else (maxF offF l (l.length - 1)).f
def lowF (l : List Ply) : Int := if l.length < 1 then 0 else (minF numF l (l.length - 1)).n
def highF (l : List Ply) : Int := if l.length < 1 then 0 else (maxF numF l (l.length - 1)).n
set_option maxRecDepth 20000 in
set_option maxHeartbeats 2000000 in
theorem lengthC (A : Option Addr) (c : Nat) (l : List Ply) (w : World) (hl : l.length ≤ 1000) (h : SlY w A l) :
    Calls Tryz.prog 17 #[.slice A l.length c] w fun r w' => r = .returned (.int .i64 (lenF l)) ∧ Below w.heap.size w w' := by
  by_cases h0 : l.length < 1
  · have e : lenF l = 0 := if_pos h0
    rw [e]
    have hz : (l.length : Int) = 0 := by omega
    generalize l.length = n at *
    go_enter Tryz.func17, Tryz.ntmps17
    go_wp2_with fail
    go_ret
    exact ⟨rfl, Below.refl _ _⟩
  · have e : lenF l = (maxF offF l (l.length - 1)).f := if_neg h0
    have hm := maxC 28 offF A c l w eg28 offC hl (by omega) h
    rw [e]
    generalize maxF offF l (l.length - 1) = m at *
    simp only [yV] at hm
    have hfd := fieldO m.o m.f m.n m.v m.p m.s m.e
    generalize l.length = n at *
    go_enter Tryz.func17, Tryz.ntmps17
    go_wp2_with fail
    refine hm.mono ?_
    rintro r w' ⟨rfl, hb⟩
    go_wp2_with fail
    go_ret
    exact ⟨rfl, hb⟩
set_option maxRecDepth 20000 in
set_option maxHeartbeats 2000000 in
theorem rangeC (A : Option Addr) (c : Nat) (l : List Ply) (w : World) (hl : l.length ≤ 1000) (h : SlY w A l) :
    Calls Tryz.prog 14 #[.slice A l.length c] w fun r w' => r = .returned (.tuple #[.int .i64 (lowF l), .int .i64 (highF l)]) ∧ Below w.heap.size w w' := by
  by_cases h0 : l.length < 1
  · have e : lowF l = 0 := if_pos h0
    have e2 : highF l = 0 := if_pos h0
    rw [e, e2]
    have hz : (l.length : Int) = 0 := by omega
    generalize l.length = n at *
    go_enter Tryz.func14, Tryz.ntmps14
    go_wp2_with fail
    go_returns
    exact ⟨rfl, Below.refl _ _⟩
  · have e : lowF l = (minF numF l (l.length - 1)).n := if_neg h0
    have e2 : highF l = (maxF numF l (l.length - 1)).n := if_neg h0
    have hm := minC 25 numF A c l w eg25 numC hl (by omega) h
    have hx := fun w' (hb : Below w.heap.size w w') => maxC 25 numF A c l w' eg25 numC hl (by omega) (h.below hb)
    rw [e, e2]
    generalize maxF numF l (l.length - 1) = mx at *
    generalize minF numF l (l.length - 1) = mn at *
    simp only [yV] at hm hx
    have hf1 := fieldN mn.o mn.f mn.n mn.v mn.p mn.s mn.e
    have hf2 := fieldN mx.o mx.f mx.n mx.v mx.p mx.s mx.e
    generalize l.length = n at *
    go_enter Tryz.func14, Tryz.ntmps14
    go_wp2_with fail
    refine hm.mono ?_
    rintro r w' ⟨rfl, hb⟩
    go_wp2_with fail
    refine (hx w' hb).mono ?_
    rintro r w2 ⟨rfl, hb2⟩
    go_wp2_with fail
    go_returns
    exact ⟨rfl, hb.trans (hb2.mono hb.size)⟩
end Go.Proofs.YtmbchdfgckmpoaaGreat
