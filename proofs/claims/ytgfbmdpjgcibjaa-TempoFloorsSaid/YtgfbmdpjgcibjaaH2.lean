/- Proved: Rows.TempoFloorsSaid: the law TempoFloors returns true for every input. Conditions: none beyond the row's own (the arguments can be read as data). -/
import Derived.Test.YtgfbmdpjgcibjaaRows
import Derived.Test.YtgfbmdpjgcibjaaFrame
import Derived.Test.YtgfbmdpjgcibjaaG2
import Derived.Test.YtgfbmdpjgcibjaaG3
namespace Go.Proofs.Ytgfbmdpjgcibjaa.tempoFloorsP
open Go.ChangeShapes Go.WideShapes Go.ChangeAt Go.RowKit

theorem own : ownKnob Try.prog.godebug = none := by kernel_rfl
theorem laidOut : laidOutB Try.prog = true := by kernel_rfl

set_option maxRecDepth 100000 in
theorem lifted (os : Os) (started : os.Started) (H : Type) (enc : TypeId × Value → H) :
    ReturnsInHanded {} Try.checked os 3 .any (Rows.tempoFloorsSpec.pre6 enc Try.prog Try.f3 Rows.tempoFloorsRow.domain false) (Rows.tempoFloorsSpec.post enc Try.prog Try.f3 false true false false) := by
  refine lifted_law (C := Try.checked) (tb := 4) own started (by kernel_rfl) Try.func3
    (ChangeSpec.witness6 (enc := enc) (C := Try.checked) false ⟨#[], #[.agg #[.int .u32 0, .int .u32 0], .int .u32 0, .int .u32 0], []⟩ 8 (by kernel_rfl) (by kernel_rfl) (by kernel_rfl) (by kernel_rfl))
    rfl (fun ds h => ?_) rfl Try.underlying4 laidOut ?_ ?_
  · match ds, h with
    | [_, _, _], _ => rfl
  · intro t ht
    have : t = 23 ∨ t = 22 := by simpa [Try.params3] using ht
    rcases this with rfl | rfl
    · exact ⟨by kernel_rfl, of_decide_eq_true (by kernel_rfl)⟩
    · exact ⟨by kernel_rfl, of_decide_eq_true (by kernel_rfl)⟩
  · intro W base args ds ps hval hA _
    have hA : DataW.TrodAll enc Try.prog W 0 (fun _ => true) true Try.f3.params.toList args.toList ds ps := hA
    have hval : ∀ (j : Nat) t v, Try.f3.params[j]? = some t → args[j]? = some v → Value.okWide Try.prog W .any base t v := hval
    rw [Try.params3] at hA hval
    obtain ⟨v0, vs0, d0, ds0, p0, q0, hargs, rfl, rfl, h0, r0⟩ := trodAll_cons hA
    obtain ⟨v1, vs1, d1, ds1, p1, q1, rfl, rfl, rfl, h1, r1⟩ := trodAll_cons r0
    obtain ⟨v2, vs2, d2, ds2, p2, q2, rfl, rfl, rfl, h2, r2⟩ := trodAll_cons r1
    obtain ⟨rfl, rfl, rfl⟩ := trodAll_nil r2
    obtain rfl : args = #[v0, v1, v2] := by cases args; simp_all
    obtain ⟨xs0, hx0, rfl, wf0⟩ := open_flatK Try.underlying23 rfl (n := 2) (ti := 22) (by kernel_rfl) (by omega) (by kernel_rfl) Try.underlying22 (hval 0 23 v0 rfl rfl)
    obtain ⟨a1, rfl, rfl, rfl, wf1⟩ := open_int Try.underlying22 (hval 1 22 v1 rfl rfl) h1
    obtain ⟨a2, rfl, rfl, rfl, wf2⟩ := open_int Try.underlying22 (hval 2 22 v2 rfl rfl) h2
    match xs0, hx0 with
    | [a0_0, a0_1], _ =>
      have u0 : (0 : Int) ≤ a0_0 ∧ a0_0 ≤ 4294967295 := wf0 a0_0 (by simp)
      have u1 : (0 : Int) ≤ a0_1 ∧ a0_1 ≤ 4294967295 := wf0 a0_1 (by simp)
      have u2 : (0 : Int) ≤ a1 ∧ a1 ≤ 4294967295 := by have h := wf1; simp [Lit.wf, IntKind.min, IntKind.max, IntKind.signed, IntKind.bits] at h; omega
      have u3 : (0 : Int) ≤ a2 ∧ a2 ≤ 4294967295 := by have h := wf2; simp [Lit.wf, IntKind.min, IntKind.max, IntKind.signed, IntKind.bits] at h; omega
      exact floorsC a0_0 a0_1 a1 a2 W u0.1 u0.2 u1.1 u1.2 u2.1 u2.2 u3.1 u3.2

theorem over : Rows.tempoFloorsRow.holds Try.pinned (OpenSpec.ofChange Rows.tempoFloorsSpec) :=
  OpenClaim.holds_of_wide 3 Try.f3 rfl rfl rfl rfl rfl rfl rfl ⟨rfl, rfl, rfl, rfl, rfl⟩ rfl rfl rfl rfl rfl (by kernel_rfl) Try.func3 (by kernel_rfl)
    (of_decide_eq_true (by kernel_rfl)) (by unfold Func.isWrapper; first | (rw [if_pos (by decide +kernel)]; kernel_rfl) | (rw [if_neg (by decide +kernel)]; exact ⟨rfl, rfl⟩))
    (fun os started H enc _ => lifted os started H enc)

theorem proved : Rows.TempoFloorsSaid :=
  over
#print axioms proved
end Go.Proofs.Ytgfbmdpjgcibjaa.tempoFloorsP
