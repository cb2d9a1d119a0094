/- Proved: Rows.OrnamentSwingsSaid: the law hemiolalaw45.OrnamentSwings returns true for every metre, every place and every percentage. Conditions: none beyond the row's own (the arguments can be read as data). -/
import Derived.Test.YtaklcnhenapckaaRows
import Derived.Test.YtaklcnhenapckaaFrame
import Derived.Test.YtaklcnhenapckaaA6
namespace Go.Proofs.Ytaklcnhenapckaa.swings
open Go.ChangeShapes Go.WideShapes Go.ChangeAt Go.RowKit

theorem own : ownKnob Try.prog.godebug = none := by kernel_rfl
theorem laidOut : laidOutB Try.prog = true := by kernel_rfl

set_option maxRecDepth 100000 in
theorem lifted (os : Os) (started : os.Started) (H : Type) (enc : TypeId × Value → H) :
    ReturnsInHanded {} Try.checked os 6 .any (Rows.ornamentSwingsSpec.pre6 enc Try.prog Try.f6 Rows.ornamentSwingsRow.domain false) (Rows.ornamentSwingsSpec.post enc Try.prog Try.f6 false true false false) := by
  refine lifted_law (C := Try.checked) (tb := 4) own started (by kernel_rfl) Try.func6
    (ChangeSpec.witness6 (enc := enc) (C := Try.checked) false ⟨#[], #[.agg #[.int .i64 0, .int .i64 0, .int .i64 0, .int .i64 0, .int .i64 0, .int .i64 0, .int .i64 0, .int .i64 0], .agg #[.int .i64 0, .int .i64 0], .int .i64 0], []⟩ 8 (by kernel_rfl) (by kernel_rfl) (by kernel_rfl) (by kernel_rfl))
    rfl (fun ds h => ?_) rfl Try.underlying4 laidOut ?_ ?_
  · match ds, h with
    | [_, _, _], _ => rfl
  · intro t ht
    have : t = 39 ∨ t = 41 ∨ t = 3 := by simpa [Try.params6] using ht
    rcases this with rfl | rfl | rfl
    · exact ⟨by kernel_rfl, of_decide_eq_true (by kernel_rfl)⟩
    · exact ⟨by kernel_rfl, of_decide_eq_true (by kernel_rfl)⟩
    · exact ⟨by kernel_rfl, of_decide_eq_true (by kernel_rfl)⟩
  · intro W base args ds ps hval hA _
    have hA : DataW.TrodAll enc Try.prog W 0 (fun _ => true) true Try.f6.params.toList args.toList ds ps := hA
    have hval : ∀ (j : Nat) t v, Try.f6.params[j]? = some t → args[j]? = some v → Value.okWide Try.prog W .any base t v := hval
    rw [Try.params6] at hA hval
    obtain ⟨v0, v1, v2, d0, d1, d2, p0, p1, p2, rfl, rfl, rfl, h0, h1, h2⟩ := trodAll_three hA
    obtain ⟨xs, hx, rfl, _⟩ := open_flat Try.underlying39 rfl (n := 8) (ti := 3) (by kernel_rfl) (by omega) (by kernel_rfl) Try.underlying3 (hval 0 39 v0 rfl rfl)
    obtain ⟨ys, hy, rfl, _⟩ := open_flat Try.underlying41 rfl (n := 2) (ti := 3) (by kernel_rfl) (by omega) (by kernel_rfl) Try.underlying3 (hval 1 41 v1 rfl rfl)
    match xs, hx, ys, hy with
    | [c, u, g0, g1, g2, g3, g4, g5], _, [off, tick], _ =>
      obtain ⟨f, rfl, rfl, rfl, _⟩ := open_int Try.underlying3 (hval 2 3 v2 rfl rfl) h2
      exact lawSwings c u g0 g1 g2 g3 g4 g5 off tick f W

theorem over : Rows.ornamentSwingsRow.holds Try.pinned (OpenSpec.ofChange Rows.ornamentSwingsSpec) :=
  OpenClaim.holds_of_wide 6 Try.f6 rfl rfl rfl rfl rfl rfl rfl ⟨rfl, rfl, rfl, rfl, rfl⟩ rfl rfl rfl rfl rfl (by kernel_rfl) Try.func6 (by kernel_rfl)
    (of_decide_eq_true (by kernel_rfl)) (by unfold Func.isWrapper; first | (rw [if_pos (by decide +kernel)]; kernel_rfl) | (rw [if_neg (by decide +kernel)]; exact ⟨rfl, rfl⟩))
    (fun os started H enc _ => lifted os started H enc)

theorem proved : Rows.OrnamentSwingsSaid :=
  over
#print axioms proved
end Go.Proofs.Ytaklcnhenapckaa.swings
