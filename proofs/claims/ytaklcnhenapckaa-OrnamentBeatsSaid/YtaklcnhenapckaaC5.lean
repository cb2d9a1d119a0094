/- Proved: Rows.OrnamentBeatsSaid: the law OrnamentBeats returns true for every input. Conditions: none beyond the row's own (the arguments can be read as data). -/
import Derived.Test.YtaklcnhenapckaaRows
import Derived.Test.YtaklcnhenapckaaFrame
import Derived.Test.YtaklcnhenapckaaB8
namespace Go.Proofs.Ytaklcnhenapckaa.ornamentBeatsP
open Go.ChangeShapes Go.WideShapes Go.ChangeAt Go.RowKit

theorem own : ownKnob Try.prog.godebug = none := by kernel_rfl
theorem laidOut : laidOutB Try.prog = true := by kernel_rfl

set_option maxRecDepth 100000 in
theorem lifted (os : Os) (started : os.Started) (H : Type) (enc : TypeId × Value → H) :
    ReturnsInHanded {} Try.checked os 7 .any (Rows.ornamentBeatsSpec.pre6 enc Try.prog Try.f7 Rows.ornamentBeatsRow.domain false) (Rows.ornamentBeatsSpec.post enc Try.prog Try.f7 false true false false) := by
  refine lifted_law (C := Try.checked) (tb := 4) own started (by kernel_rfl) Try.func7
    (ChangeSpec.witness6 (enc := enc) (C := Try.checked) false ⟨#[], #[.agg #[.int .i64 0, .int .i64 0, .int .i64 0, .int .i64 0, .int .i64 0, .int .i64 0, .int .i64 0, .int .i64 0], .agg #[.int .i64 0, .int .i64 0], .agg #[.int .i64 0, .int .i64 0]], []⟩ 8 (by kernel_rfl) (by kernel_rfl) (by kernel_rfl) (by kernel_rfl))
    rfl (fun ds h => ?_) rfl Try.underlying4 laidOut ?_ ?_
  · match ds, h with
    | [_, _, _], _ => rfl
  · intro t ht
    have : t = 39 ∨ t = 41 ∨ t = 29 := by simpa [Try.params7] using ht
    rcases this with rfl | rfl | rfl
    · exact ⟨by kernel_rfl, of_decide_eq_true (by kernel_rfl)⟩
    · exact ⟨by kernel_rfl, of_decide_eq_true (by kernel_rfl)⟩
    · exact ⟨by kernel_rfl, of_decide_eq_true (by kernel_rfl)⟩
  · intro W base args ds ps hval hA _
    have hA : DataW.TrodAll enc Try.prog W 0 (fun _ => true) true Try.f7.params.toList args.toList ds ps := hA
    have hval : ∀ (j : Nat) t v, Try.f7.params[j]? = some t → args[j]? = some v → Value.okWide Try.prog W .any base t v := hval
    rw [Try.params7] at hA hval
    obtain ⟨v0, vs0, d0, ds0, p0, q0, hargs, rfl, rfl, h0, r0⟩ := trodAll_cons hA
    obtain ⟨v1, vs1, d1, ds1, p1, q1, rfl, rfl, rfl, h1, r1⟩ := trodAll_cons r0
    obtain ⟨v2, vs2, d2, ds2, p2, q2, rfl, rfl, rfl, h2, r2⟩ := trodAll_cons r1
    obtain ⟨rfl, rfl, rfl⟩ := trodAll_nil r2
    obtain rfl : args = #[v0, v1, v2] := by cases args; simp_all
    obtain ⟨xs0, hx0, rfl, wf0⟩ := open_flat Try.underlying39 rfl (n := 8) (ti := 3) (by kernel_rfl) (by omega) (by kernel_rfl) Try.underlying3 (hval 0 39 v0 rfl rfl)
    obtain ⟨xs1, hx1, rfl, wf1⟩ := open_flat Try.underlying41 rfl (n := 2) (ti := 3) (by kernel_rfl) (by omega) (by kernel_rfl) Try.underlying3 (hval 1 41 v1 rfl rfl)
    obtain ⟨xs2, hx2, rfl, wf2⟩ := open_flat Try.underlying29 rfl (n := 2) (ti := 3) (by kernel_rfl) (by omega) (by kernel_rfl) Try.underlying3 (hval 2 29 v2 rfl rfl)
    match xs0, hx0, xs1, hx1, xs2, hx2 with
    | [a0_0, a0_1, a0_2, a0_3, a0_4, a0_5, a0_6, a0_7], _, [a1_0, a1_1], _, [a2_0, a2_1], _ =>
      exact lawBeats a0_0 a0_1 a0_2 a0_3 a0_4 a0_5 a0_6 a0_7 a1_0 a1_1 a2_0 a2_1 W

theorem over : Rows.ornamentBeatsRow.holds Try.pinned (OpenSpec.ofChange Rows.ornamentBeatsSpec) :=
  OpenClaim.holds_of_wide 7 Try.f7 rfl rfl rfl rfl rfl rfl rfl ⟨rfl, rfl, rfl, rfl, rfl⟩ rfl rfl rfl rfl rfl (by kernel_rfl) Try.func7 (by kernel_rfl)
    (of_decide_eq_true (by kernel_rfl)) (by unfold Func.isWrapper; first | (rw [if_pos (by decide +kernel)]; kernel_rfl) | (rw [if_neg (by decide +kernel)]; exact ⟨rfl, rfl⟩))
    (fun os started H enc _ => lifted os started H enc)

theorem proved : Rows.OrnamentBeatsSaid :=
  over
#print axioms proved
end Go.Proofs.Ytaklcnhenapckaa.ornamentBeatsP
