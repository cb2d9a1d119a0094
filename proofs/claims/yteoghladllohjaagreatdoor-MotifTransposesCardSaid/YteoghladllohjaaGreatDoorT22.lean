/- Proved: Rows.MotifTransposesCardSaid: the law MotifTransposes returns true for every input, the listed tables and errors tied to the program's text. Conditions: none beyond the row's own. -/
import Derived.Test.YteoghladllohjaaGreatDoorRows
import Derived.Test.YteoghladllohjaaGreatDoorCards
import Derived.Test.YteoghladllohjaaGreatDoorTie
import Derived.Test.YteoghladllohjaaGreatDoorM16
import Derived.Test.YteoghladllohjaaGreatDoorT21
import Derived.SevenTiedAt
import Derived.Lay
import Derived.MakeChecks
namespace Go.Proofs.YteoghladllohjaaGreatDoor.motifTransposesP
open Go Go.ChangeShapes Go.WideShapes Go.ChangeAt Go.RowKit

theorem own : ownKnob Tryz.prog.godebug = none := by kernel_rfl
theorem laidOut : laidOutB Tryz.prog = true := by kernel_rfl

theorem door_met (os : Os) (args : Array Value) : laidMetH Tryz.prog LL ((World.laidAll Tryz.prog os LL).forCall (fun _ _ => 0) ⟨#[], args, []⟩).memory := by
  rw [MakeChecks.laidMetH_plain _ _ _ (by kernel_rfl)]
  exact laidMet_laidAll _ (by kernel_rfl) (by kernel_rfl)

theorem opensT {H : Type} (enc : TypeId × Value → H) : Opens enc Tryz.prog (relFlat encT) 35 := by
  intro w base spare held fuel cs x h
  have hf := fits_of_trod 4 (show flatK Tryz.prog 4 35 = some [true, true, true, true, false] by kernel_rfl) _ _ _ _ _ _ _ h
  match cs, fits_len hf, hf with
  | [_, _, _, _, _], _, ⟨⟨a, rfl, _⟩, ⟨b, rfl, _⟩, ⟨c, rfl, _⟩, ⟨d, rfl, _⟩, ⟨e, rfl⟩, _⟩ => exact ⟨⟨a, ⟨b, c, d⟩, e⟩, rfl⟩
theorem SlT.of {w : World} {b off : Nat} {l : List Tone} {B : Nat} (hb : b < w.heap.size) (h : ∀ i (h : i < l.length), ∃ c, c.length = 5 ∧ At w b (off + i * 5) c ∧ relFlat encT w B l[i] c) : SlT w (some ⟨b, off, none⟩) l := by
  refine SlT.intro hb fun k hk => ?_
  obtain ⟨c, _, h1, h2⟩ := h k hk
  have e : nth l k = l[k] := by unfold nth; rw [List.getD_eq_getElem?_getD, List.getElem?_eq_getElem hk]; rfl
  rw [e]
  rw [h2] at h1
  exact ⟨h1 0 _ rfl, h1 1 _ rfl, h1 2 _ rfl, h1 3 _ rfl, h1 4 _ rfl⟩
set_option maxRecDepth 100000 in
theorem lifted (os : Os) (started : os.Started) (H : Type) (enc : TypeId × Value → H) :
    ReturnsInHanded {} Tryz.checked os 3 .any (fun w args => (Rows.motifTransposesSpec.pre enc Tryz.prog Tryz.f3 [] false w args ∧ laidMetH Tryz.prog LL w) ∧ sizedMet enc Tryz.prog Tryz.f3 (OpenSpec.ofChange Rows.motifTransposesSpec) false w args)
      (Rows.motifTransposesSpec.post enc Tryz.prog Tryz.f3 false true false false) := by
  refine lifted_env (C := Tryz.checked) (tb := 4) (X := fun w _ => laidMetH Tryz.prog LL w) (fun _ _ _ hh h => h.of_heap hh) own started (by kernel_rfl) Tryz.func3
    (ChangeSpec.witness_shaped (enc := enc) (C := Tryz.checked) (os := os) (X := fun w _ => laidMetH Tryz.prog LL w) false (World.laidAll Tryz.prog os LL) #[.slice none 0 0, .agg #[.int .i64 0, .int .i64 0], .agg #[.int .i64 0, .int .i64 0, .int .i64 0]] 8 (World.laidAll_os _ _ _) (World.shaped_of_ZipB (by kernel_rfl) (by kernel_rfl)) (by kernel_rfl) (by kernel_rfl) (by kernel_rfl) (door_met os _))
    rfl (fun ds h => ?_) rfl Tryz.underlying4 laidOut ?_ ?_
  · match ds, h with
    | [_, _, _], _ => rfl
  · intro t ht
    have : t = 22 ∨ t = 24 ∨ t = 26 := by simpa [Tryz.params3] using ht
    rcases this with rfl | rfl | rfl
    · exact ⟨by kernel_rfl, of_decide_eq_true (by kernel_rfl)⟩
    · exact ⟨by kernel_rfl, of_decide_eq_true (by kernel_rfl)⟩
    · exact ⟨by kernel_rfl, of_decide_eq_true (by kernel_rfl)⟩
  · intro W base args ds ps hval hA _ hX hsh
    have he := env_of hX hsh
    have hA : DataW.TrodAll enc Tryz.prog W 0 (fun _ => true) true Tryz.f3.params.toList args.toList ds ps := hA
    have hval : ∀ (j : Nat) t v, Tryz.f3.params[j]? = some t → args[j]? = some v → Value.okWide Tryz.prog W .any base t v := hval
    rw [Tryz.params3] at hA hval
    obtain ⟨v0, vs0, d0, ds0, p0, q0, hargs, rfl, rfl, h0, r0⟩ := trodAll_cons hA
    obtain ⟨v1, vs1, d1, ds1, p1, q1, rfl, rfl, rfl, h1, r1⟩ := trodAll_cons r0
    obtain ⟨v2, vs2, d2, ds2, p2, q2, rfl, rfl, rfl, h2, r2⟩ := trodAll_cons r1
    obtain ⟨rfl, rfl, rfl⟩ := trodAll_nil r2
    obtain rfl : args = #[v0, v1, v2] := by cases args; simp_all
    obtain ⟨fuel0, hf0⟩ := h0
    obtain ⟨l0, hl0⟩ := opens_slice (size := 5) Tryz.underlying22 (by kernel_rfl) (by omega) (opensT enc) _ _ _ _ _ _ _ hf0
    obtain ⟨sa0, sn0, sc0, rfl, k1, k2, k3⟩ := slice_ok Tryz.underlying22 (hval 0 22 v0 rfl rfl)
    rw [i64max] at k2
    have s0 : sn0 = l0.length ∧ SlT W sa0 l0 := by
      rcases hl0 with ⟨rfl, A, cap, hcs, _⟩ | ⟨b, off, cap, hcs, hb, hlc, _, hne, hel⟩
      · simp only [Value.cells, List.cons.injEq, Value.slice.injEq, and_true] at hcs
        obtain ⟨rfl, rfl, rfl⟩ := hcs
        exact ⟨rfl, .inl rfl⟩
      · simp only [Value.cells, List.cons.injEq, Value.slice.injEq, and_true] at hcs
        obtain ⟨rfl, rfl, rfl⟩ := hcs
        exact ⟨rfl, SlT.of hb hel⟩
    obtain ⟨rfl, t0⟩ := s0
    obtain ⟨xs1, hx1, rfl, _⟩ := open_flat Tryz.underlying24 rfl (n := 2) (ti := 3) (by kernel_rfl) (by omega) (by kernel_rfl) Tryz.underlying3 (hval 1 24 v1 rfl rfl)
    obtain ⟨xs2, hx2, rfl, _⟩ := open_flat Tryz.underlying26 rfl (n := 3) (ti := 3) (by kernel_rfl) (by omega) (by kernel_rfl) Tryz.underlying3 (hval 2 26 v2 rfl rfl)
    match xs1, hx1, xs2, hx2 with
    | [t, m], _, [s, a, o], _ => exact transposesC sa0 sc0 l0 t m s a o W he k1 (by omega) k3 t0

theorem over : Rows.motifTransposesRow.holds Tryz.pinned (OpenSpec.ofChange Rows.motifTransposesSpec) :=
  OpenClaim.holds_of_wide 3 Tryz.f3 rfl rfl rfl rfl rfl rfl rfl ⟨rfl, rfl, rfl, rfl, rfl⟩ rfl rfl rfl rfl rfl (by kernel_rfl) Tryz.func3 (by kernel_rfl)
    (of_decide_eq_true (by kernel_rfl)) (by unfold Func.isWrapper; first | (rw [if_pos (by decide +kernel)]; kernel_rfl) | (rw [if_neg (by decide +kernel)]; exact ⟨rfl, rfl⟩))
    (fun os started H enc _ => lifted os started H enc)

theorem proved : Rows.MotifTransposesCardSaid :=
  Claim7.holds_tied_plain_at .later [] [.data, .data, .data, .data, .sentinel, .sentinel, .pinned] true (true, "66dd39655b8c0c68afb8663937b1aaf2ba14f4cc3225937a9ca791c798a4f271") true
    over (fun _ h => by cases h) (by kernel_rfl) (fun _ h => by cases h) motifTransposes_row_tie rfl ⟨rfl, rfl⟩ (by kernel_rfl) rfl
    (fun f fn hf hfn => by
      obtain rfl : f = 3 := Option.some.inj ((show Tryz.prog.funcNamed "hemiola/hemiolalaw51.MotifTransposes" = some 3 by kernel_rfl).symm.trans hf) |>.symm
      obtain rfl : fn = Tryz.f3 := (Option.some.inj (Tryz.func3.symm.trans hfn)).symm
      exact ⟨by kernel_rfl, fun j t ht => by
        rw [Tryz.params3] at ht
        have hm : t ∈ [22, 24, 26] := by simpa using Array.mem_of_getElem? ht
        have hall : ([22, 24, 26].all fun u => !Tryz.prog.wantsStandIn u) = true := by kernel_rfl
        exact (show Tryz.prog.wantsStandIn t = false by simpa using List.all_eq_true.1 hall t hm)⟩)
    (by kernel_rfl)
#print axioms proved
end Go.Proofs.YteoghladllohjaaGreatDoor.motifTransposesP
