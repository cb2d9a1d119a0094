/- Proved: Rows.PerformSharesSaid: the law PerformShares returns true for every input. Conditions: none beyond the row's own (the arguments can be read as data). -/
import Derived.Test.YtmbchdfgckmpoaaGreatRows
import Derived.Test.YtmbchdfgckmpoaaGreatFrame
import Derived.Test.YtmbchdfgckmpoaaGreatA1
namespace Go.Proofs.YtmbchdfgckmpoaaGreat.performSharesP
open Go.ChangeShapes Go.WideShapes Go.ChangeAt Go.RowKit

theorem own : ownKnob Tryz.prog.godebug = none := by kernel_rfl
theorem laidOut : laidOutB Tryz.prog = true := by kernel_rfl

set_option maxRecDepth 100000 in
theorem lifted (os : Os) (started : os.Started) (H : Type) (enc : TypeId × Value → H) :
    ReturnsInHanded {} Tryz.checked os 3 .any (Rows.performSharesSpec.pre6 enc Tryz.prog Tryz.f3 Rows.performSharesRow.domain false) (Rows.performSharesSpec.post enc Tryz.prog Tryz.f3 false true false false) := by
  refine lifted_law (C := Tryz.checked) (tb := 4) own started (by kernel_rfl) Tryz.func3
    (ChangeSpec.witness6 (enc := enc) (C := Tryz.checked) false ⟨#[], #[.int .i64 0, .bool false], []⟩ 8 (by kernel_rfl) (by kernel_rfl) (by kernel_rfl) (by kernel_rfl))
    rfl (fun ds h => ?_) rfl Tryz.underlying4 laidOut ?_ ?_
  · match ds, h with
    | [_, _], _ => rfl
  · intro t ht
    have : t = 3 ∨ t = 4 := by simpa [Tryz.params3] using ht
    rcases this with rfl | rfl
    · exact ⟨by kernel_rfl, of_decide_eq_true (by kernel_rfl)⟩
    · exact ⟨by kernel_rfl, of_decide_eq_true (by kernel_rfl)⟩
  · intro W base args ds ps hval hA _
    have hA : DataW.TrodAll enc Tryz.prog W 0 (fun _ => true) true Tryz.f3.params.toList args.toList ds ps := hA
    have hval : ∀ (j : Nat) t v, Tryz.f3.params[j]? = some t → args[j]? = some v → Value.okWide Tryz.prog W .any base t v := hval
    rw [Tryz.params3] at hA hval
    obtain ⟨v0, vs0, d0, ds0, p0, q0, hargs, rfl, rfl, h0, r0⟩ := trodAll_cons hA
    obtain ⟨v1, vs1, d1, ds1, p1, q1, rfl, rfl, rfl, h1, r1⟩ := trodAll_cons r0
    obtain ⟨rfl, rfl, rfl⟩ := trodAll_nil r1
    obtain rfl : args = #[v0, v1] := by cases args; simp_all
    obtain ⟨a0, rfl, rfl, rfl, wf0⟩ := open_int Tryz.underlying3 (hval 0 3 v0 rfl rfl) h0
    obtain ⟨a1, rfl, rfl, rfl⟩ := open_bool Tryz.underlying4 (hval 1 4 v1 rfl rfl) h1
    exact sharesC a0 a1 W

theorem and_tt {a b : Bool} (h : a = true) (k : b = true) : (a && b) = true := by rw [h, k]; rfl
set_option maxHeartbeats 40000000 in
set_option maxRecDepth 1000000 in
theorem closed : joinedFacts Tryz.prog 3 Tryz.f3 Rows.performSharesSpec Rows.performSharesRow = true := by
  unfold joinedFacts
  iterate 31 (refine and_tt ?_ ?_)
  all_goals as_aux_lemma => kernel_rfl
theorem inst : Tryz.f3.isInstance Tryz.prog Rows.performSharesRow.origin Rows.performSharesRow.targs := of_decide_eq_true (by kernel_rfl)
theorem wrap : Tryz.f3.isWrapper Tryz.prog Rows.performSharesRow.wrapper Rows.performSharesRow.mainSum := by unfold Func.isWrapper; first | (rw [if_pos (by decide +kernel)]; kernel_rfl) | (rw [if_neg (by decide +kernel)]; exact ⟨rfl, rfl⟩)
theorem named : Tryz.prog.funcNamed Rows.performSharesRow.func = some 3 := by kernel_rfl

theorem over : Rows.performSharesRow.holds Tryz.pinned (OpenSpec.ofChange Rows.performSharesSpec) :=
  OpenClaim.holds_of_wide 3 Tryz.f3 rfl rfl rfl rfl rfl rfl rfl ⟨rfl, rfl, rfl, rfl, rfl⟩ rfl rfl rfl rfl rfl named Tryz.func3 closed inst wrap
    (fun os started H enc _ => lifted os started H enc)

theorem proved : Rows.PerformSharesSaid :=
  over
#print axioms proved
end Go.Proofs.YtmbchdfgckmpoaaGreat.performSharesP
