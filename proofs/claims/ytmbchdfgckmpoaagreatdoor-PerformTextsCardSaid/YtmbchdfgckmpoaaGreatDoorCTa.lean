/- The law PerformTexts: what the card needs. -/
import Derived.Test.YtmbchdfgckmpoaaGreatDoorRows
import Derived.Test.YtmbchdfgckmpoaaGreatDoorCards
import Derived.Test.YtmbchdfgckmpoaaGreatDoorTie
import Derived.Test.YtmbchdfgckmpoaaGreatDoorZF
import Derived.Test.YtmbchdfgckmpoaaGreatDoorZ16
import Derived.Test.YtmbchdfgckmpoaaGreatDoorB8
import Derived.SevenTiedAt
import Derived.Lay
import Derived.MakeChecks
namespace Go.Proofs.YtmbchdfgckmpoaaGreatDoor.performTextsP
open Go Go.ChangeShapes Go.WideShapes Go.ChangeAt Go.RowKit

theorem own : ownKnob Tryz.prog.godebug = none := by kernel_rfl
theorem laidOut : laidOutB Tryz.prog = true := by kernel_rfl

theorem door_met (os : Os) (args : Array Value) : laidMetH Tryz.prog LL ((World.laidAll Tryz.prog os LL).forCall (fun _ _ => 0) ⟨#[], args, []⟩).memory := by
  rw [MakeChecks.laidMetH_plain _ _ _ (by kernel_rfl)]
  exact laidMet_laidAll _ (by kernel_rfl) (by kernel_rfl)

set_option maxRecDepth 100000 in
theorem lifted (os : Os) (started : os.Started) (H : Type) (enc : TypeId × Value → H) :
    ReturnsInHanded {} Tryz.checked os 3 .any (fun w args => (Rows.performTextsSpec.pre enc Tryz.prog Tryz.f3 [] false w args ∧ laidMetH Tryz.prog LL w) ∧ sizedMet enc Tryz.prog Tryz.f3 (OpenSpec.ofChange Rows.performTextsSpec) false w args)
      (Rows.performTextsSpec.post enc Tryz.prog Tryz.f3 false true false false) := by
  refine lifted_env (C := Tryz.checked) (tb := 4) (X := fun w _ => laidMetH Tryz.prog LL w) (fun _ _ _ hh h => h.of_heap hh) own started (by kernel_rfl) Tryz.func3
    (ChangeSpec.witness_shaped (enc := enc) (C := Tryz.checked) (os := os) (X := fun w _ => laidMetH Tryz.prog LL w) false (World.laidAll Tryz.prog os LL) #[.slice none 0 0] 8 (World.laidAll_os _ _ _) (World.shaped_of_ZipB (by kernel_rfl) (by kernel_rfl)) (by kernel_rfl) (by kernel_rfl) (by kernel_rfl) (door_met os _))
    rfl (fun ds h => ?_) rfl Tryz.underlying4 laidOut ?_ ?_
  · match ds, h with
    | [_], _ => rfl
  · intro t ht
    have : t = 22 := by simpa [Tryz.params3] using ht
    rcases this with rfl
    · exact ⟨by kernel_rfl, of_decide_eq_true (by kernel_rfl)⟩
  · intro W base args ds ps hval hA _ hX hsh
    have he := env_of hX hsh
    have hA : DataW.TrodAll enc Tryz.prog W 0 (fun _ => true) true Tryz.f3.params.toList args.toList ds ps := hA
    have hval : ∀ (j : Nat) t v, Tryz.f3.params[j]? = some t → args[j]? = some v → Value.okWide Tryz.prog W .any base t v := hval
    rw [Tryz.params3] at hA hval
    obtain ⟨v0, vs0, d0, ds0, p0, q0, hargs, rfl, rfl, h0, r0⟩ := trodAll_cons hA
    obtain ⟨rfl, rfl, rfl⟩ := trodAll_nil r0
    obtain rfl : args = #[v0] := by cases args; simp_all
    obtain ⟨fuel0, hf0⟩ := h0
    obtain ⟨l0, hl0⟩ := opens_slice (size := 7) Tryz.underlying22 (by kernel_rfl) (by omega) (opensY enc) _ _ _ _ _ _ _ hf0
    obtain ⟨sa0, sn0, sc0, rfl, k1, k2, k3⟩ := slice_ok Tryz.underlying22 (hval 0 22 v0 rfl rfl)
    rw [i64max] at k2
    have s0 : sn0 = l0.length ∧ SlY W sa0 l0 := by
      rcases hl0 with ⟨rfl, A, cap, hcs, _⟩ | ⟨b, off, cap, hcs, hb, hlc, _, hne, hel⟩
      · simp only [Value.cells, List.cons.injEq, Value.slice.injEq, and_true] at hcs
        obtain ⟨rfl, rfl, rfl⟩ := hcs
        exact ⟨rfl, .inl rfl⟩
      · simp only [Value.cells, List.cons.injEq, Value.slice.injEq, and_true] at hcs
        obtain ⟨rfl, rfl, rfl⟩ := hcs
        exact ⟨rfl, SlY.of hb hel⟩
    obtain ⟨rfl, t0⟩ := s0
    exact textsC sa0 sc0 l0 W he (by unfold maxLen; omega) t0

theorem and_tt {a b : Bool} (h : a = true) (k : b = true) : (a && b) = true := by rw [h, k]; rfl
set_option maxHeartbeats 40000000 in
set_option maxRecDepth 1000000 in
theorem closed : joinedFacts Tryz.prog 3 Tryz.f3 Rows.performTextsSpec Rows.performTextsRow = true := by
  unfold joinedFacts
  iterate 31 (refine and_tt ?_ ?_)
  all_goals as_aux_lemma => kernel_rfl
theorem inst : Tryz.f3.isInstance Tryz.prog Rows.performTextsRow.origin Rows.performTextsRow.targs := of_decide_eq_true (by kernel_rfl)
theorem wrap : Tryz.f3.isWrapper Tryz.prog Rows.performTextsRow.wrapper Rows.performTextsRow.mainSum := by unfold Func.isWrapper; first | (rw [if_pos (by decide +kernel)]; kernel_rfl) | (rw [if_neg (by decide +kernel)]; exact ⟨rfl, rfl⟩)
theorem named : Tryz.prog.funcNamed Rows.performTextsRow.func = some 3 := by kernel_rfl
theorem over : Rows.performTextsRow.holds Tryz.pinned (OpenSpec.ofChange Rows.performTextsSpec) :=
  OpenClaim.holds_of_wide 3 Tryz.f3 rfl rfl rfl rfl rfl rfl rfl ⟨rfl, rfl, rfl, rfl, rfl⟩ rfl rfl rfl rfl rfl named Tryz.func3 closed inst wrap
    (fun os started H enc _ => lifted os started H enc)

end Go.Proofs.YtmbchdfgckmpoaaGreatDoor.performTextsP
