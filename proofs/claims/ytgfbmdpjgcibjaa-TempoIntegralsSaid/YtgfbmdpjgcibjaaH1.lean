/- Proved: Rows.TempoIntegralsSaid: the law TempoIntegrals returns true for every input. Conditions: none beyond the row's own (the arguments can be read as data). -/
import Derived.Test.YtgfbmdpjgcibjaaRows
import Derived.Test.YtgfbmdpjgcibjaaFrame
import Derived.Test.YtgfbmdpjgcibjaaG1
namespace Go.Proofs.Ytgfbmdpjgcibjaa.tempoIntegralsP
open Go.ChangeShapes Go.WideShapes Go.ChangeAt Go.RowKit

theorem own : ownKnob Try.prog.godebug = none := by kernel_rfl
theorem laidOut : laidOutB Try.prog = true := by kernel_rfl

set_option maxRecDepth 100000 in
theorem lifted (os : Os) (started : os.Started) (H : Type) (enc : TypeId × Value → H) :
    ReturnsInHanded {} Try.checked os 6 .any (Rows.tempoIntegralsSpec.pre6 enc Try.prog Try.f6 Rows.tempoIntegralsRow.domain false) (Rows.tempoIntegralsSpec.post enc Try.prog Try.f6 false true false false) := by
  refine lifted_law (C := Try.checked) (tb := 4) own started (by kernel_rfl) Try.func6
    (ChangeSpec.witness6 (enc := enc) (C := Try.checked) false ⟨#[], #[.agg #[.int .i64 0, .int .i64 0], .int .i64 0, .int .i64 0], []⟩ 8 (by kernel_rfl) (by kernel_rfl) (by kernel_rfl) (by kernel_rfl))
    rfl (fun ds h => ?_) rfl Try.underlying4 laidOut ?_ ?_
  · match ds, h with
    | [_, _, _], _ => rfl
  · intro t ht
    have : t = 30 ∨ t = 3 := by simpa [Try.params6] using ht
    rcases this with rfl | rfl
    · exact ⟨by kernel_rfl, of_decide_eq_true (by kernel_rfl)⟩
    · exact ⟨by kernel_rfl, of_decide_eq_true (by kernel_rfl)⟩
  · intro W base args ds ps hval hA _
    have hA : DataW.TrodAll enc Try.prog W 0 (fun _ => true) true Try.f6.params.toList args.toList ds ps := hA
    have hval : ∀ (j : Nat) t v, Try.f6.params[j]? = some t → args[j]? = some v → Value.okWide Try.prog W .any base t v := hval
    rw [Try.params6] at hA hval
    obtain ⟨v0, vs0, d0, ds0, p0, q0, hargs, rfl, rfl, h0, r0⟩ := trodAll_cons hA
    obtain ⟨v1, vs1, d1, ds1, p1, q1, rfl, rfl, rfl, h1, r1⟩ := trodAll_cons r0
    obtain ⟨v2, vs2, d2, ds2, p2, q2, rfl, rfl, rfl, h2, r2⟩ := trodAll_cons r1
    obtain ⟨rfl, rfl, rfl⟩ := trodAll_nil r2
    obtain rfl : args = #[v0, v1, v2] := by cases args; simp_all
    obtain ⟨xs0, hx0, rfl, wf0⟩ := open_flat Try.underlying30 rfl (n := 2) (ti := 3) (by kernel_rfl) (by omega) (by kernel_rfl) Try.underlying3 (hval 0 30 v0 rfl rfl)
    obtain ⟨a1, rfl, rfl, rfl, wf1⟩ := open_int Try.underlying3 (hval 1 3 v1 rfl rfl) h1
    obtain ⟨a2, rfl, rfl, rfl, wf2⟩ := open_int Try.underlying3 (hval 2 3 v2 rfl rfl) h2
    match xs0, hx0 with
    | [a0_0, a0_1], _ =>
      exact integralsC a0_0 a0_1 a1 a2 W

theorem over : Rows.tempoIntegralsRow.holds Try.pinned (OpenSpec.ofChange Rows.tempoIntegralsSpec) :=
  OpenClaim.holds_of_wide 6 Try.f6 rfl rfl rfl rfl rfl rfl rfl ⟨rfl, rfl, rfl, rfl, rfl⟩ rfl rfl rfl rfl rfl (by kernel_rfl) Try.func6 (by kernel_rfl)
    (of_decide_eq_true (by kernel_rfl)) (by unfold Func.isWrapper; first | (rw [if_pos (by decide +kernel)]; kernel_rfl) | (rw [if_neg (by decide +kernel)]; exact ⟨rfl, rfl⟩))
    (fun os started H enc _ => lifted os started H enc)

theorem proved : Rows.TempoIntegralsSaid :=
  over
#print axioms proved
end Go.Proofs.Ytgfbmdpjgcibjaa.tempoIntegralsP
