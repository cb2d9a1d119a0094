/- Proved: Rows.MergeSequencesCardSaid: the law MergeSequences returns true for every input, the listed tables tied to the program's text. Conditions: none beyond the row's own. -/
import Derived.Test.YtacoeahipklibaaDoorRows
import Derived.Test.YtacoeahipklibaaDoorCards
import Derived.Test.YtacoeahipklibaaDoorTie
import Derived.Test.YtacoeahipklibaaDoorFrame
import Derived.Test.YtacoeahipklibaaDoorL2
import Derived.SevenTiedAt
namespace Go.Proofs.YtacoeahipklibaaDoor.mergeSequencesP
open Go Go.ChangeShapes Go.WideShapes Go.ChangeAt Go.RowKit

theorem own : ownKnob Tryd.prog.godebug = none := by kernel_rfl
abbrev LL : List (String × DataW Unit) := Rows.mergeSequencesRow.laid

theorem has_wf {a : Int} (h : IntKind.i64.has a) : (Lit.int .i64 a).wf = true := by
  show (decide _ && decide _) = true
  rw [decide_eq_true h.1, decide_eq_true h.2]
  rfl

theorem opensId {H : Type} (enc : TypeId × Value → H) : Opens enc Tryd.prog (relFlat encId) 30 := by
  intro w base spare held fuel cs x h
  have hf := fits_of_trod 3 (show flatK Tryd.prog 3 30 = some [true, true] by kernel_rfl) _ _ _ _ _ _ _ h
  match cs, fits_len hf, hf with
  | [_, _], _, ⟨⟨a, rfl, ha⟩, ⟨b, rfl, hb⟩, _⟩ => exact ⟨⟨a, b, has_wf ha, has_wf hb⟩, rfl⟩

theorem SlI.of {w : World} {b off : Nat} {l : List Id} {B : Nat} (hb : b < w.heap.size) (hne : l ≠ []) (h : ∀ i (h : i < l.length), ∃ c, c.length = 2 ∧ At w b (off + i * 2) c ∧ relFlat encId w B l[i] c) : SlI w (some ⟨b, off, none⟩) l := by
  refine .inr ⟨List.length_pos_iff.2 hne, b, off, rfl, hb, fun k hk => ?_⟩
  obtain ⟨c, _, h1, h2⟩ := h k hk
  have e : ith l k = l[k] := by unfold ith; rw [List.getD_eq_getElem?_getD, List.getElem?_eq_getElem hk]; rfl
  rw [e]
  rw [h2] at h1
  exact ⟨h1 0 _ rfl, h1 1 _ rfl⟩

theorem door_met (os : Os) (args : Array Value) : laidMetH Tryd.prog LL ((World.doorLaid Tryd.prog 400 os).forCall (fun _ _ => 0) ⟨#[], args, []⟩).memory :=
  laidMetH_of_parts3 (fuel := 8) (laidMet_of_run' 8 (by kernel_rfl) (by kernel_rfl)) (by kernel_rfl) (by kernel_rfl)

set_option maxRecDepth 100000 in
theorem lifted (os : Os) (started : os.Started) (H : Type) (enc : TypeId × Value → H) :
    ReturnsInHanded {} Tryd.checked os 3 .any (fun w args => (Rows.mergeSequencesSpec.pre enc Tryd.prog Tryd.f3 [] false w args ∧ laidMetH Tryd.prog LL w) ∧ sizedMet enc Tryd.prog Tryd.f3 (OpenSpec.ofChange Rows.mergeSequencesSpec) false w args)
      (Rows.mergeSequencesSpec.post enc Tryd.prog Tryd.f3 false true false false) := by
  refine lifted_laid (C := Tryd.checked) (tb := 4) (X := fun w _ => laidMetH Tryd.prog LL w) (fun _ _ _ hh h => h.of_heap hh) own started (by kernel_rfl) Tryd.func3
    (ChangeSpec.witness_shaped (enc := enc) (C := Tryd.checked) (os := os) (X := fun w _ => laidMetH Tryd.prog LL w) false (World.doorLaid Tryd.prog 400 os) #[.slice none 0 0, .slice none 0 0, .slice none 0 0] 8 rfl (World.shaped_of_RefB (by kernel_rfl) (by kernel_rfl)) (by kernel_rfl) (by kernel_rfl) (by kernel_rfl) (door_met os _))
    rfl (fun ds h => ?_) rfl Tryd.underlying4 laidOut ?_ ?_
  · match ds, h with
    | [_, _, _], _ => rfl
  · intro t ht
    have : t = 22 := by simpa [Tryd.params3] using ht
    subst this
    · exact ⟨by kernel_rfl, of_decide_eq_true (by kernel_rfl)⟩
  · intro W base args ds ps hval hA _
    have hA : DataW.TrodAll enc Tryd.prog W 0 (fun _ => true) true Tryd.f3.params.toList args.toList ds ps := hA
    have hval : ∀ (j : Nat) t v, Tryd.f3.params[j]? = some t → args[j]? = some v → Value.okWide Tryd.prog W .any base t v := hval
    rw [Tryd.params3] at hA hval
    obtain ⟨v0, vs0, d0, ds0, p0, q0, hargs, rfl, rfl, h0, r0⟩ := trodAll_cons hA
    obtain ⟨v1, vs1, d1, ds1, p1, q1, rfl, rfl, rfl, h1, r1⟩ := trodAll_cons r0
    obtain ⟨v2, vs2, d2, ds2, p2, q2, rfl, rfl, rfl, h2, r2⟩ := trodAll_cons r1
    obtain ⟨rfl, rfl, rfl⟩ := trodAll_nil r2
    obtain rfl : args = #[v0, v1, v2] := by cases args; simp_all
    obtain ⟨fuel0, hf0⟩ := h0
    obtain ⟨l0, hl0⟩ := opens_slice (size := 2) Tryd.underlying22 (by kernel_rfl) (by omega) (opensId enc) _ _ _ _ _ _ _ hf0
    obtain ⟨sa0, sn0, sc0, rfl⟩ := okWide_slice Tryd.underlying22 (hval 0 22 v0 rfl rfl)
    have s0 : sn0 = l0.length ∧ SlI W sa0 l0 := by
      rcases hl0 with ⟨rfl, A, cap, hcs, _⟩ | ⟨b, off, cap, hcs, hb, hlc, _, hne, hel⟩
      · simp only [Value.cells, List.cons.injEq, Value.slice.injEq, and_true] at hcs
        obtain ⟨rfl, rfl, rfl⟩ := hcs
        exact ⟨rfl, .inl rfl⟩
      · simp only [Value.cells, List.cons.injEq, Value.slice.injEq, and_true] at hcs
        obtain ⟨rfl, rfl, rfl⟩ := hcs
        exact ⟨rfl, SlI.of hb hne hel⟩
    obtain ⟨rfl, t0⟩ := s0
    obtain ⟨fuel1, hf1⟩ := h1
    obtain ⟨l1, hl1⟩ := opens_slice (size := 2) Tryd.underlying22 (by kernel_rfl) (by omega) (opensId enc) _ _ _ _ _ _ _ hf1
    obtain ⟨sa1, sn1, sc1, rfl⟩ := okWide_slice Tryd.underlying22 (hval 1 22 v1 rfl rfl)
    have s1 : sn1 = l1.length ∧ SlI W sa1 l1 := by
      rcases hl1 with ⟨rfl, A, cap, hcs, _⟩ | ⟨b, off, cap, hcs, hb, hlc, _, hne, hel⟩
      · simp only [Value.cells, List.cons.injEq, Value.slice.injEq, and_true] at hcs
        obtain ⟨rfl, rfl, rfl⟩ := hcs
        exact ⟨rfl, .inl rfl⟩
      · simp only [Value.cells, List.cons.injEq, Value.slice.injEq, and_true] at hcs
        obtain ⟨rfl, rfl, rfl⟩ := hcs
        exact ⟨rfl, SlI.of hb hne hel⟩
    obtain ⟨rfl, t1⟩ := s1
    obtain ⟨fuel2, hf2⟩ := h2
    obtain ⟨l2, hl2⟩ := opens_slice (size := 2) Tryd.underlying22 (by kernel_rfl) (by omega) (opensId enc) _ _ _ _ _ _ _ hf2
    obtain ⟨sa2, sn2, sc2, rfl⟩ := okWide_slice Tryd.underlying22 (hval 2 22 v2 rfl rfl)
    have s2 : sn2 = l2.length ∧ SlI W sa2 l2 := by
      rcases hl2 with ⟨rfl, A, cap, hcs, _⟩ | ⟨b, off, cap, hcs, hb, hlc, _, hne, hel⟩
      · simp only [Value.cells, List.cons.injEq, Value.slice.injEq, and_true] at hcs
        obtain ⟨rfl, rfl, rfl⟩ := hcs
        exact ⟨rfl, .inl rfl⟩
      · simp only [Value.cells, List.cons.injEq, Value.slice.injEq, and_true] at hcs
        obtain ⟨rfl, rfl, rfl⟩ := hcs
        exact ⟨rfl, SlI.of hb hne hel⟩
    obtain ⟨rfl, t2⟩ := s2
    exact seqsC _ _ _ _ _ _ l0 l1 l2 W t0 t1 t2

theorem over : Rows.mergeSequencesRow.holds Tryd.pinned (OpenSpec.ofChange Rows.mergeSequencesSpec) :=
  OpenClaim.holds_of_wide 3 Tryd.f3 rfl rfl rfl rfl rfl rfl rfl ⟨rfl, rfl, rfl, rfl, rfl⟩ rfl rfl rfl rfl rfl (by kernel_rfl) Tryd.func3 (by kernel_rfl)
    (of_decide_eq_true (by kernel_rfl)) (by unfold Func.isWrapper; first | (rw [if_pos (by decide +kernel)]; kernel_rfl) | (rw [if_neg (by decide +kernel)]; exact ⟨rfl, rfl⟩))
    (fun os started H enc _ => lifted os started H enc)

theorem proved : Rows.MergeSequencesCardSaid :=
  Claim7.holds_tied_plain_at .later [] [.data, .data, .data] true (true, "f3fcf8204128dffb6bd389120d7645f7dbd7abab287140dabaa8c81f2cd47462") false
    over (fun _ h => by cases h) (by kernel_rfl) (fun _ h => by cases h) mergeSequences_row_tie rfl ⟨rfl, rfl⟩ (by kernel_rfl) rfl
    (fun f fn hf hfn => by
      obtain rfl : f = 3 := Option.some.inj ((show Tryd.prog.funcNamed "hemiola/hemiolalaw54.MergeSequences" = some 3 by kernel_rfl).symm.trans hf) |>.symm
      obtain rfl : fn = Tryd.f3 := (Option.some.inj (Tryd.func3.symm.trans hfn)).symm
      exact ⟨by kernel_rfl, fun j t ht => by
        rw [Tryd.params3] at ht
        have hm : t ∈ [22, 22, 22] := by simpa using Array.mem_of_getElem? ht
        have hall : ([22, 22, 22].all fun u => !Tryd.prog.wantsStandIn u) = true := by kernel_rfl
        exact (show Tryd.prog.wantsStandIn t = false by simpa using List.all_eq_true.1 hall t hm)⟩)
    (by kernel_rfl)
#print axioms proved
end Go.Proofs.YtacoeahipklibaaDoor.mergeSequencesP
