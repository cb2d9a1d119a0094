/- Proved: Rows.PerformClipsSaid: the law PerformClips returns true for every input. Conditions: none beyond the row's own (the arguments can be read as data). -/
import Derived.Test.YtmbchdfgckmpoaaGreatRows
import Derived.Test.YtmbchdfgckmpoaaGreatFrame
import Derived.Test.YtmbchdfgckmpoaaGreatB8
import Derived.Test.YtmbchdfgckmpoaaGreatB7
namespace Go.Proofs.YtmbchdfgckmpoaaGreat.performClipsP
open Go.ChangeShapes Go.WideShapes Go.ChangeAt Go.RowKit

theorem own : ownKnob Tryz.prog.godebug = none := by kernel_rfl
theorem laidOut : laidOutB Tryz.prog = true := by kernel_rfl

set_option maxRecDepth 100000 in
theorem lifted (os : Os) (started : os.Started) (H : Type) (enc : TypeId × Value → H) :
    ReturnsInHanded {} Tryz.checked os 5 .any (Rows.performClipsSpec.pre6 enc Tryz.prog Tryz.f5 Rows.performClipsRow.domain false) (Rows.performClipsSpec.post enc Tryz.prog Tryz.f5 false true false false) := by
  refine lifted_law (C := Tryz.checked) (tb := 4) own started (by kernel_rfl) Tryz.func5
    (ChangeSpec.witness6 (enc := enc) (C := Tryz.checked) false ⟨#[], #[.slice none 0 0, .agg #[.int .i64 0, .int .i64 0], .int .i64 0], []⟩ 8 (by kernel_rfl) (by kernel_rfl) (by kernel_rfl) (by kernel_rfl))
    rfl (fun ds h => ?_) rfl Tryz.underlying4 laidOut ?_ ?_
  · match ds, h with
    | [_, _, _], _ => rfl
  · intro t ht
    have : t = 25 ∨ t = 34 ∨ t = 3 := by simpa [Tryz.params5] using ht
    rcases this with rfl | rfl | rfl
    · exact ⟨by kernel_rfl, of_decide_eq_true (by kernel_rfl)⟩
    · exact ⟨by kernel_rfl, of_decide_eq_true (by kernel_rfl)⟩
    · exact ⟨by kernel_rfl, of_decide_eq_true (by kernel_rfl)⟩
  · intro W base args ds ps hval hA _
    have hA : DataW.TrodAll enc Tryz.prog W 0 (fun _ => true) true Tryz.f5.params.toList args.toList ds ps := hA
    have hval : ∀ (j : Nat) t v, Tryz.f5.params[j]? = some t → args[j]? = some v → Value.okWide Tryz.prog W .any base t v := hval
    rw [Tryz.params5] at hA hval
    obtain ⟨v0, vs0, d0, ds0, p0, q0, hargs, rfl, rfl, h0, r0⟩ := trodAll_cons hA
    obtain ⟨v1, vs1, d1, ds1, p1, q1, rfl, rfl, rfl, h1, r1⟩ := trodAll_cons r0
    obtain ⟨v2, vs2, d2, ds2, p2, q2, rfl, rfl, rfl, h2, r2⟩ := trodAll_cons r1
    obtain ⟨rfl, rfl, rfl⟩ := trodAll_nil r2
    obtain rfl : args = #[v0, v1, v2] := by cases args; simp_all
    obtain ⟨fuel0, hf0⟩ := h0
    obtain ⟨l, hl0⟩ := opens_slice (size := 7) Tryz.underlying25 (by kernel_rfl) (by omega) (opensY enc) _ _ _ _ _ _ _ hf0
    obtain ⟨A, n0, cc, rfl, k1, k2, k3⟩ := slice_ok Tryz.underlying25 (hval 0 25 v0 rfl rfl)
    rw [i64max] at k2
    have s0 : n0 = l.length ∧ SlY W A l := by
      rcases hl0 with ⟨rfl, B, cap, hcs, _⟩ | ⟨b, off, cap, hcs, hb, hlc, _, hne, hel⟩
      · simp only [Value.cells, List.cons.injEq, Value.slice.injEq, and_true] at hcs
        obtain ⟨rfl, rfl, rfl⟩ := hcs
        exact ⟨rfl, .inl rfl⟩
      · simp only [Value.cells, List.cons.injEq, Value.slice.injEq, and_true] at hcs
        obtain ⟨rfl, rfl, rfl⟩ := hcs
        exact ⟨rfl, SlY.of hb hel⟩
    obtain ⟨rfl, hS⟩ := s0
    obtain ⟨xs1, hx1, rfl, wf1⟩ := open_flat Tryz.underlying34 rfl (n := 2) (ti := 3) (by kernel_rfl) (by omega) (by kernel_rfl) Tryz.underlying3 (hval 1 34 v1 rfl rfl)
    obtain ⟨a2, rfl, rfl, rfl, wf2⟩ := open_int Tryz.underlying3 (hval 2 3 v2 rfl rfl) h2
    match xs1, hx1 with
    | [b0, b1], _ =>
      exact clipsC A cc l b0 b1 a2 W (by unfold maxLen; omega) hS

theorem and_tt {a b : Bool} (h : a = true) (k : b = true) : (a && b) = true := by rw [h, k]; rfl
set_option maxHeartbeats 40000000 in
set_option maxRecDepth 1000000 in
theorem closed : joinedFacts Tryz.prog 5 Tryz.f5 Rows.performClipsSpec Rows.performClipsRow = true := by
  unfold joinedFacts
  iterate 31 (refine and_tt ?_ ?_)
  all_goals as_aux_lemma => kernel_rfl
theorem inst : Tryz.f5.isInstance Tryz.prog Rows.performClipsRow.origin Rows.performClipsRow.targs := of_decide_eq_true (by kernel_rfl)
theorem wrap : Tryz.f5.isWrapper Tryz.prog Rows.performClipsRow.wrapper Rows.performClipsRow.mainSum := by unfold Func.isWrapper; first | (rw [if_pos (by decide +kernel)]; kernel_rfl) | (rw [if_neg (by decide +kernel)]; exact ⟨rfl, rfl⟩)
theorem named : Tryz.prog.funcNamed Rows.performClipsRow.func = some 5 := by kernel_rfl

theorem over : Rows.performClipsRow.holds Tryz.pinned (OpenSpec.ofChange Rows.performClipsSpec) :=
  OpenClaim.holds_of_wide 5 Tryz.f5 rfl rfl rfl rfl rfl rfl rfl ⟨rfl, rfl, rfl, rfl, rfl⟩ rfl rfl rfl rfl rfl named Tryz.func5 closed inst wrap
    (fun os started H enc _ => lifted os started H enc)

theorem proved : Rows.PerformClipsSaid :=
  over
#print axioms proved
end Go.Proofs.YtmbchdfgckmpoaaGreat.performClipsP
