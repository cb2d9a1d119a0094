/- Proved: Rows.TempoMakesSaid: the law TempoMakes returns true for every input. Conditions: none beyond the row's own (the arguments can be read as data). -/
import Derived.Test.YtgfbmdpjgcibjaaRows
import Derived.Test.YtgfbmdpjgcibjaaFrame
import Derived.Test.YtgfbmdpjgcibjaaG17
namespace Go.Proofs.Ytgfbmdpjgcibjaa.tempoMakesP
open Go.ChangeShapes Go.WideShapes Go.ChangeAt Go.RowKit

theorem own : ownKnob Try.prog.godebug = none := by kernel_rfl
theorem laidOut : laidOutB Try.prog = true := by kernel_rfl

set_option maxRecDepth 100000 in
theorem lifted (os : Os) (started : os.Started) (H : Type) (enc : TypeId × Value → H) :
    ReturnsInHanded {} Try.checked os 9 .any (Rows.tempoMakesSpec.pre6 enc Try.prog Try.f9 Rows.tempoMakesRow.domain false) (Rows.tempoMakesSpec.post enc Try.prog Try.f9 false true false false) := by
  refine lifted_law (C := Try.checked) (tb := 4) own started (by kernel_rfl) Try.func9
    (ChangeSpec.witness6 (enc := enc) (C := Try.checked) false ⟨#[], #[.slice none 0 0], []⟩ 8 (by kernel_rfl) (by kernel_rfl) (by kernel_rfl) (by kernel_rfl))
    rfl (fun ds h => ?_) rfl Try.underlying4 laidOut ?_ ?_
  · match ds, h with
    | [_], _ => rfl
  · intro t ht
    have : t = 29 := by simpa [Try.params9] using ht
    subst this
    · exact ⟨by kernel_rfl, of_decide_eq_true (by kernel_rfl)⟩
  · intro W base args ds ps hval hA _
    have hA : DataW.TrodAll enc Try.prog W 0 (fun _ => true) true Try.f9.params.toList args.toList ds ps := hA
    have hval : ∀ (j : Nat) t v, Try.f9.params[j]? = some t → args[j]? = some v → Value.okWide Try.prog W .any base t v := hval
    rw [Try.params9] at hA hval
    obtain ⟨v0, vs0, d0, ds0, p0, q0, hargs, rfl, rfl, h0, r0⟩ := trodAll_cons hA
    obtain ⟨rfl, rfl, rfl⟩ := trodAll_nil r0
    obtain rfl : args = #[v0] := by cases args; simp_all
    obtain ⟨fuel0, hf0⟩ := h0
    obtain ⟨l0, hl0⟩ := opens_slice (size := 5) Try.underlying29 (by kernel_rfl) (by omega) (opensSt enc) _ _ _ _ _ _ _ hf0
    obtain ⟨sa0, sn0, sc0, rfl⟩ := okWide_slice Try.underlying29 (hval 0 29 v0 rfl rfl)
    rcases hl0 with ⟨rfl, A, cap, hcs, _⟩ | ⟨b, off, cap, hcs, hb, hlc, _, hne, hel⟩
    · simp only [Value.cells, List.cons.injEq, Value.slice.injEq, and_true] at hcs
      obtain ⟨rfl, rfl, rfl⟩ := hcs
      exact makes0 _ _  W
    · simp only [Value.cells, List.cons.injEq, Value.slice.injEq, and_true] at hcs
      obtain ⟨rfl, rfl, rfl⟩ := hcs
      exact makesC b off l0.length _ (stAt l0)  W (List.length_pos_iff.2 hne) hb (RdS.of rfl hel)

theorem over : Rows.tempoMakesRow.holds Try.pinned (OpenSpec.ofChange Rows.tempoMakesSpec) :=
  OpenClaim.holds_of_wide 9 Try.f9 rfl rfl rfl rfl rfl rfl rfl ⟨rfl, rfl, rfl, rfl, rfl⟩ rfl rfl rfl rfl rfl (by kernel_rfl) Try.func9 (by kernel_rfl)
    (of_decide_eq_true (by kernel_rfl)) (by unfold Func.isWrapper; first | (rw [if_pos (by decide +kernel)]; kernel_rfl) | (rw [if_neg (by decide +kernel)]; exact ⟨rfl, rfl⟩))
    (fun os started H enc _ => lifted os started H enc)

theorem proved : Rows.TempoMakesSaid :=
  over
#print axioms proved
end Go.Proofs.Ytgfbmdpjgcibjaa.tempoMakesP
