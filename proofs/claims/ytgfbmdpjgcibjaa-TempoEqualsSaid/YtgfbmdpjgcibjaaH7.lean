/- Proved: Rows.TempoEqualsSaid: the law TempoEquals returns true for every input. Conditions: none beyond the row's own (the arguments can be read as data). -/
import Derived.Test.YtgfbmdpjgcibjaaRows
import Derived.Test.YtgfbmdpjgcibjaaFrame
import Derived.Test.YtgfbmdpjgcibjaaG21
namespace Go.Proofs.Ytgfbmdpjgcibjaa.tempoEqualsP
open Go.ChangeShapes Go.WideShapes Go.ChangeAt Go.RowKit

theorem own : ownKnob Try.prog.godebug = none := by kernel_rfl
theorem laidOut : laidOutB Try.prog = true := by kernel_rfl

set_option maxRecDepth 100000 in
theorem lifted (os : Os) (started : os.Started) (H : Type) (enc : TypeId × Value → H) :
    ReturnsInHanded {} Try.checked os 10 .any (Rows.tempoEqualsSpec.pre6 enc Try.prog Try.f10 Rows.tempoEqualsRow.domain false) (Rows.tempoEqualsSpec.post enc Try.prog Try.f10 false true false false) := by
  refine lifted_law (C := Try.checked) (tb := 4) own started (by kernel_rfl) Try.func10
    (ChangeSpec.witness6 (enc := enc) (C := Try.checked) false ⟨#[], #[.slice none 0 0, .slice none 0 0], []⟩ 8 (by kernel_rfl) (by kernel_rfl) (by kernel_rfl) (by kernel_rfl))
    rfl (fun ds h => ?_) rfl Try.underlying4 laidOut ?_ ?_
  · match ds, h with
    | [_, _], _ => rfl
  · intro t ht
    have : t = 29 := by simpa [Try.params10] using ht
    subst this
    · exact ⟨by kernel_rfl, of_decide_eq_true (by kernel_rfl)⟩
  · intro W base args ds ps hval hA _
    have hA : DataW.TrodAll enc Try.prog W 0 (fun _ => true) true Try.f10.params.toList args.toList ds ps := hA
    have hval : ∀ (j : Nat) t v, Try.f10.params[j]? = some t → args[j]? = some v → Value.okWide Try.prog W .any base t v := hval
    rw [Try.params10] at hA hval
    obtain ⟨v0, vs0, d0, ds0, p0, q0, hargs, rfl, rfl, h0, r0⟩ := trodAll_cons hA
    obtain ⟨v1, vs1, d1, ds1, p1, q1, rfl, rfl, rfl, h1, r1⟩ := trodAll_cons r0
    obtain ⟨rfl, rfl, rfl⟩ := trodAll_nil r1
    obtain rfl : args = #[v0, v1] := by cases args; simp_all
    obtain ⟨fuel0, hf0⟩ := h0
    obtain ⟨l0, hl0⟩ := opens_slice (size := 5) Try.underlying29 (by kernel_rfl) (by omega) (opensSt enc) _ _ _ _ _ _ _ hf0
    obtain ⟨sa0, sn0, sc0, rfl⟩ := okWide_slice Try.underlying29 (hval 0 29 v0 rfl rfl)
    obtain ⟨fuel1, hf1⟩ := h1
    obtain ⟨l1, hl1⟩ := opens_slice (size := 5) Try.underlying29 (by kernel_rfl) (by omega) (opensSt enc) _ _ _ _ _ _ _ hf1
    obtain ⟨sa1, sn1, sc1, rfl⟩ := okWide_slice Try.underlying29 (hval 1 29 v1 rfl rfl)
    have s0 : sn0 = l0.length ∧ RdA W sa0 l0.length (stAt l0) := by
      rcases hl0 with ⟨rfl, A, cap, hcs, _⟩ | ⟨b, off, cap, hcs, hb, hlc, _, hne, hel⟩
      · simp only [Value.cells, List.cons.injEq, Value.slice.injEq, and_true] at hcs
        obtain ⟨rfl, rfl, rfl⟩ := hcs
        exact ⟨rfl, .inl rfl⟩
      · simp only [Value.cells, List.cons.injEq, Value.slice.injEq, and_true] at hcs
        obtain ⟨rfl, rfl, rfl⟩ := hcs
        exact ⟨rfl, .inr ⟨List.length_pos_iff.2 hne, b, off, rfl, hb, RdS.of rfl hel⟩⟩
    obtain ⟨rfl, t0⟩ := s0
    have s1 : sn1 = l1.length ∧ RdA W sa1 l1.length (stAt l1) := by
      rcases hl1 with ⟨rfl, A, cap, hcs, _⟩ | ⟨b, off, cap, hcs, hb, hlc, _, hne, hel⟩
      · simp only [Value.cells, List.cons.injEq, Value.slice.injEq, and_true] at hcs
        obtain ⟨rfl, rfl, rfl⟩ := hcs
        exact ⟨rfl, .inl rfl⟩
      · simp only [Value.cells, List.cons.injEq, Value.slice.injEq, and_true] at hcs
        obtain ⟨rfl, rfl, rfl⟩ := hcs
        exact ⟨rfl, .inr ⟨List.length_pos_iff.2 hne, b, off, rfl, hb, RdS.of rfl hel⟩⟩
    obtain ⟨rfl, t1⟩ := s1
    exact equalsC _ _ _ _ _ _ (stAt l0) (stAt l1) W t0 t1

theorem over : Rows.tempoEqualsRow.holds Try.pinned (OpenSpec.ofChange Rows.tempoEqualsSpec) :=
  OpenClaim.holds_of_wide 10 Try.f10 rfl rfl rfl rfl rfl rfl rfl ⟨rfl, rfl, rfl, rfl, rfl⟩ rfl rfl rfl rfl rfl (by kernel_rfl) Try.func10 (by kernel_rfl)
    (of_decide_eq_true (by kernel_rfl)) (by unfold Func.isWrapper; first | (rw [if_pos (by decide +kernel)]; kernel_rfl) | (rw [if_neg (by decide +kernel)]; exact ⟨rfl, rfl⟩))
    (fun os started H enc _ => lifted os started H enc)

theorem proved : Rows.TempoEqualsSaid :=
  over
#print axioms proved
end Go.Proofs.Ytgfbmdpjgcibjaa.tempoEqualsP
