/- slices.Clone of tones. -/
import Derived.Test.YteoghladllohjaaGreatDoorP4
import Derived.Test.YteoghladllohjaaGreatDoorM13
namespace Go.Proofs.YteoghladllohjaaGreatDoor
open Go.RowKit Go.Shelf Go.Sort

theorem RdT.cells {w : World} {b off : Nat} {l : List Tone} (h : RdT w b off l) : ∀ j u, (cellsT l)[j]? = some u → w.cell? ((⟨b, off, none⟩ : Addr).add j) = some u := by
  intro j u hu
  have hj : j < l.length * 5 := by
    have := (List.getElem?_eq_some_iff.1 hu).1
    rwa [cellsT_len] at this
  rw [Addr.add_lit]
  obtain ⟨h0, h1, h2, h3, h4⟩ := h (j / 5) (by omega)
  have key : ∀ i v, i < 5 → j % 5 = i → (encT (nth l (j / 5)))[i]? = some v → w.cell? ⟨b, off + j / 5 * 5 + i, none⟩ = some v → w.cell? ⟨b, off + j, none⟩ = some u := by
    intro i v hi hm he hc
    have e2 := cellsT_get l (j / 5) i (by omega) hi
    rw [show j / 5 * 5 + i = j by omega, hu, he] at e2
    cases e2
    rw [show off + j = off + j / 5 * 5 + i by omega]; exact hc
  have hm : j % 5 = 0 ∨ j % 5 = 1 ∨ j % 5 = 2 ∨ j % 5 = 3 ∨ j % 5 = 4 := by omega
  rcases hm with hm | hm | hm | hm | hm
  · exact key 0 _ (by omega) hm rfl h0
  · exact key 1 _ (by omega) hm rfl h1
  · exact key 2 _ (by omega) hm rfl h2
  · exact key 3 _ (by omega) hm rfl h3
  · exact key 4 _ (by omega) hm rfl h4
theorem cellsT_one (l : List Tone) : ∀ v ∈ cellsT l, v.oneCell' = true := by
  intro v hv
  obtain ⟨x, _, hx⟩ := List.mem_flatMap.1 hv
  simp [encT] at hx
  rcases hx with rfl | rfl | rfl | rfl | rfl <;> rfl

set_option maxHeartbeats 2000000 in
theorem cloneC (A : Option Addr) (c : Nat) (l : List Tone) (w : World) (h0 : 0 < l.length) (hl : l.length ≤ 64) (h : SlT w A l) :
    Calls Tryz.prog 22 #[.slice A l.length c] w fun e w' => ∃ g off c', e = .returned (.slice (some ⟨g, off, none⟩) l.length c') ∧ w.heap.size ≤ g ∧ g < w'.heap.size ∧ RdT w' g off l ∧ (∀ o, w'.frozen? ⟨g, o, none⟩ = false) ∧ Below w.heap.size w w' := by
  obtain ⟨b, off, rfl, hb, hr⟩ := h.some h0
  obtain ⟨i0, hi, hi0, hi1, hi2⟩ := info_parts info40
  have hi := Lib.hid hi
  have q22 : ∀ (w : World) (a : Option Addr) (n c n' c' : Nat), (binOp .eql 22 (.slice a n c) (.slice none n' c')).run Tryz.prog w = .ok (.bool a.isNone) w := fun w a n c n' c' => Lib.run_eql_slice_nil w _ _ a n c n' c' Tryz.underlying22
  have hcl := Lib.hid (hr.below ((Below.refl _ w).alloc (Nat.le_refl _) (.cells #[] 35)) hb).cells
  have hlen := cellsT_len l
  have hone := cellsT_one l
  have hfin : ∀ (g cap : Nat) (w9 : World), w9.ownsRow w.heap.size 35 5 (.slice (some ⟨g, 0, none⟩) l.length cap) l.length (cellsT l) → w.heap.size ≤ g ∧ g < w9.heap.size ∧ RdT w9 g 0 l ∧ (∀ o, w9.frozen? ⟨g, o, none⟩ = false) := by
    intro g cap w9 ho
    have hlt := ho.lt g rfl
    obtain ⟨A', cap', e, hs⟩ := ownT_slice ho
    cases e
    obtain ⟨b', off', e, _, hr'⟩ := hs.some h0
    cases e
    exact ⟨hlt.1, hlt.2, hr', fun o => ho.frozenAt o⟩
  clear hr h
  generalize cellsT l = xs at *
  generalize hn : l.length = n at *
  go_enter Tryz.func22, Tryz.ntmps22
  go_wp2_with (at_builtin; refine wpList_append_lies _ rfl _ _ 22 rfl w.heap.size 35 i0 (.agg #[.int .i64 0, .int .i64 0, .int .i64 0, .int .i64 0, .bool false]) 5 40 Tryz.underlying22 hi.out hi0 hi1 hi2 rfl (by omega) _ _ _ (by rfl) (World.ownsRow_made w #[] 0 (Nat.le_refl _) (Nat.zero_le _) rfl) ⟨b, off, none⟩ n c xs (by rfl) hlen hcl.out hone h0 ?_ ?_ ?_ (w.heap.size + 1) ?_ ?_)
  · unfold maxLen; omega
  · omega
  · simp
  · simp
  · intro g cap w9 hown9 hgrow hat hlt1
    go_wp2_with fail
    go_ret
    obtain ⟨f1, f2, f3, f4⟩ := hfin g cap w9 hown9
    exact ⟨g, 0, cap, by simp, f1, f2, f3, f4, ((Below.refl _ w).alloc (Nat.le_refl _) _).grown hgrow (by simp) (by intro k hk; simp [Value.ownBlock] at hk; omega)⟩
end Go.Proofs.YteoghladllohjaaGreatDoor
