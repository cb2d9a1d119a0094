/- Proved: Rows.OrnamentNeighboursSaid: the law hemiolalaw45.OrnamentNeighbours returns true for every pitch and every number of fifths. Conditions: none beyond the row's own (the arguments can be read as data). -/
import Derived.Test.YtaklcnhenapckaaRows
import Derived.Test.YtaklcnhenapckaaFrame
import Derived.Test.YtaklcnhenapckaaA6
namespace Go.Proofs.Ytaklcnhenapckaa.neighbours
open Go.ChangeShapes Go.WideShapes Go.ChangeAt Go.RowKit

theorem own : ownKnob Try.prog.godebug = none := by kernel_rfl
theorem laidOut : laidOutB Try.prog = true := by kernel_rfl

set_option maxRecDepth 100000 in
theorem lifted (os : Os) (started : os.Started) (H : Type) (enc : TypeId × Value → H) :
    ReturnsInHanded {} Try.checked os 3 .any (Rows.ornamentNeighboursSpec.pre6 enc Try.prog Try.f3 Rows.ornamentNeighboursRow.domain false) (Rows.ornamentNeighboursSpec.post enc Try.prog Try.f3 false true false false) := by
  refine lifted_law (C := Try.checked) (tb := 4) own started (by kernel_rfl) Try.func3
    (ChangeSpec.witness6 (enc := enc) (C := Try.checked) false ⟨#[], #[.agg #[.int .i64 0, .int .i64 0, .int .i64 0], .int .i64 0], []⟩ 8 (by kernel_rfl) (by kernel_rfl) (by kernel_rfl) (by kernel_rfl))
    rfl (fun ds h => ?_) rfl Try.underlying4 laidOut ?_ ?_
  · match ds, h with
    | [_, _], _ => rfl
  · intro t ht
    have : t = 23 ∨ t = 3 := by simpa [Try.params3] using ht
    rcases this with rfl | rfl
    · exact ⟨by kernel_rfl, of_decide_eq_true (by kernel_rfl)⟩
    · exact ⟨by kernel_rfl, of_decide_eq_true (by kernel_rfl)⟩
  · intro W base args ds ps hval hA _
    have hA : DataW.TrodAll enc Try.prog W 0 (fun _ => true) true Try.f3.params.toList args.toList ds ps := hA
    have hval : ∀ (j : Nat) t v, Try.f3.params[j]? = some t → args[j]? = some v → Value.okWide Try.prog W .any base t v := hval
    rw [Try.params3] at hA hval
    obtain ⟨v0, v1, d0, d1, p0, p1, rfl, rfl, rfl, h0, h1⟩ := trodAll_two hA
    obtain ⟨xs, hx, rfl, _⟩ := open_flat Try.underlying23 rfl (n := 3) (ti := 3) (by kernel_rfl) (by omega) (by kernel_rfl) Try.underlying3 (hval 0 23 v0 rfl rfl)
    match xs, hx with
    | [s, a, o], _ =>
      obtain ⟨f, rfl, rfl, rfl, _⟩ := open_int Try.underlying3 (hval 1 3 v1 rfl rfl) h1
      exact lawNeighbours s a o f W

theorem over : Rows.ornamentNeighboursRow.holds Try.pinned (OpenSpec.ofChange Rows.ornamentNeighboursSpec) :=
  OpenClaim.holds_of_wide 3 Try.f3 rfl rfl rfl rfl rfl rfl rfl ⟨rfl, rfl, rfl, rfl, rfl⟩ rfl rfl rfl rfl rfl (by kernel_rfl) Try.func3 (by kernel_rfl)
    (of_decide_eq_true (by kernel_rfl)) (by unfold Func.isWrapper; first | (rw [if_pos (by decide +kernel)]; kernel_rfl) | (rw [if_neg (by decide +kernel)]; exact ⟨rfl, rfl⟩))
    (fun os started H enc _ => lifted os started H enc)

theorem proved : Rows.OrnamentNeighboursSaid :=
  over
#print axioms proved
end Go.Proofs.Ytaklcnhenapckaa.neighbours
