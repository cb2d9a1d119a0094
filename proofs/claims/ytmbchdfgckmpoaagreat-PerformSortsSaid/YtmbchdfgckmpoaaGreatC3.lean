/- Proved: Rows.PerformSortsSaid: the law PerformSorts returns true for every input. Conditions: none beyond the row's own (the arguments can be read as data). -/
import Derived.Test.YtmbchdfgckmpoaaGreatRows
import Derived.Test.YtmbchdfgckmpoaaGreatFrame
import Derived.Test.YtmbchdfgckmpoaaGreatB8
import Derived.Test.YtmbchdfgckmpoaaGreatS17
namespace Go.Proofs.YtmbchdfgckmpoaaGreat.performSortsP
open Go.ChangeShapes Go.WideShapes Go.ChangeAt Go.RowKit

theorem own : ownKnob Tryz.prog.godebug = none := by kernel_rfl
theorem laidOut : laidOutB Tryz.prog = true := by kernel_rfl

set_option maxRecDepth 100000 in
theorem lifted (os : Os) (started : os.Started) (H : Type) (enc : TypeId × Value → H) :
    ReturnsInHanded {} Tryz.checked os 4 .any (Rows.performSortsSpec.pre6 enc Tryz.prog Tryz.f4 Rows.performSortsRow.domain false) (Rows.performSortsSpec.post enc Tryz.prog Tryz.f4 false true false false) := by
  refine lifted_law (C := Tryz.checked) (tb := 4) own started (by kernel_rfl) Tryz.func4
    (ChangeSpec.witness6 (enc := enc) (C := Tryz.checked) false ⟨#[], #[.slice none 0 0], []⟩ 8 (by kernel_rfl) (by kernel_rfl) (by kernel_rfl) (by kernel_rfl))
    rfl (fun ds h => ?_) rfl Tryz.underlying4 laidOut ?_ ?_
  · match ds, h with
    | [_], _ => rfl
  · intro t ht
    have : t = 25 := by simpa [Tryz.params4] using ht
    subst this
    exact ⟨by kernel_rfl, of_decide_eq_true (by kernel_rfl)⟩
  · intro W base args ds ps hval hA _
    have hA : DataW.TrodAll enc Tryz.prog W 0 (fun _ => true) true Tryz.f4.params.toList args.toList ds ps := hA
    have hval : ∀ (j : Nat) t v, Tryz.f4.params[j]? = some t → args[j]? = some v → Value.okWide Tryz.prog W .any base t v := hval
    rw [Tryz.params4] at hA hval
    obtain ⟨v0, vs0, d0, ds0, p0, q0, hargs, rfl, rfl, h0, r0⟩ := trodAll_cons hA
    obtain ⟨rfl, rfl, rfl⟩ := trodAll_nil r0
    obtain rfl : args = #[v0] := by cases args; simp_all
    obtain ⟨fuel0, hf0⟩ := h0
    obtain ⟨l, hl0⟩ := opens_slice (size := 7) Tryz.underlying25 (by kernel_rfl) (by omega) (opensY enc) _ _ _ _ _ _ _ hf0
    obtain ⟨A, n0, cc, rfl, k1, k2, k3⟩ := slice_ok Tryz.underlying25 (hval 0 25 v0 rfl rfl)
    rw [i64max] at k2
    have s0 : n0 = l.length ∧ SlY W A l := by
      rcases hl0 with ⟨rfl, B, cap, hcs, _⟩ | ⟨b, off, cap, hcs, hb, hlc, _, hne, hel⟩
      · simp only [Value.cells, List.cons.injEq, Value.slice.injEq, and_true] at hcs
        obtain ⟨rfl, rfl, rfl⟩ := hcs
        exact ⟨rfl, .inl rfl⟩
      · simp only [Value.cells, List.cons.injEq, Value.slice.injEq, and_true] at hcs
        obtain ⟨rfl, rfl, rfl⟩ := hcs
        exact ⟨rfl, SlY.of hb hel⟩
    obtain ⟨rfl, hS⟩ := s0
    exact sortsC A cc l W (by unfold maxLen; omega) hS

theorem and_tt {a b : Bool} (h : a = true) (k : b = true) : (a && b) = true := by rw [h, k]; rfl
set_option maxHeartbeats 40000000 in
set_option maxRecDepth 1000000 in
theorem closed : joinedFacts Tryz.prog 4 Tryz.f4 Rows.performSortsSpec Rows.performSortsRow = true := by
  unfold joinedFacts
  iterate 31 (refine and_tt ?_ ?_)
  all_goals as_aux_lemma => kernel_rfl
theorem inst : Tryz.f4.isInstance Tryz.prog Rows.performSortsRow.origin Rows.performSortsRow.targs := of_decide_eq_true (by kernel_rfl)
theorem wrap : Tryz.f4.isWrapper Tryz.prog Rows.performSortsRow.wrapper Rows.performSortsRow.mainSum := by unfold Func.isWrapper; first | (rw [if_pos (by decide +kernel)]; kernel_rfl) | (rw [if_neg (by decide +kernel)]; exact ⟨rfl, rfl⟩)
theorem named : Tryz.prog.funcNamed Rows.performSortsRow.func = some 4 := by kernel_rfl

theorem over : Rows.performSortsRow.holds Tryz.pinned (OpenSpec.ofChange Rows.performSortsSpec) :=
  OpenClaim.holds_of_wide 4 Tryz.f4 rfl rfl rfl rfl rfl rfl rfl ⟨rfl, rfl, rfl, rfl, rfl⟩ rfl rfl rfl rfl rfl named Tryz.func4 closed inst wrap
    (fun os started H enc _ => lifted os started H enc)

theorem proved : Rows.PerformSortsSaid :=
  over
#print axioms proved
end Go.Proofs.YtmbchdfgckmpoaaGreat.performSortsP
