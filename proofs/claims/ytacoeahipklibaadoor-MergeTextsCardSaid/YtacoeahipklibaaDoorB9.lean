/- slices.Insert, in one contract. -/
import Derived.Test.YtacoeahipklibaaDoorB8
namespace Go.Proofs.YtacoeahipklibaaDoor
open Go.RowKit Go.Lib

theorem insAt_end (l : List Id) (x : Id) : insAt l l.length x = l ++ [x] := by simp [insAt]

set_option maxHeartbeats 4000000 in
set_option maxRecDepth 100000 in
theorem insertEnd (base : Nat) (v : Value) (l : List Id) (x : Id) (vb : Nat) (w : World) (hl : l.length < 1000) (hbase : base ≤ w.heap.size) (hown : OwnI w base v l) (hv : w.heap[vb]? = some (.cells (encId x).toArray 30 (0, 0))) :
    Calls Tryd.prog 20 #[v, .int .i64 l.length, .slice (some ⟨vb, 0, none⟩) 1 1] w fun e w' => (∃ v', e = .returned v' ∧ OwnI w' base v' (l ++ [x])) ∧ Below base w w' := by
  obtain ⟨i0, hi, hi0, hi1, hi2⟩ := info_parts info30
  have hi := Lib.hid hi
  replace hown : w.ownsRow base 30 2 v l.length (cellsI l) := hown
  have hlo := hown.lt
  have hnews : ∀ j u, (encId x)[j]? = some u → w.cell? ⟨vb, j, none⟩ = some u := fun j u hj => by rw [cell_of_row w vb j _ 30 (0, 0) hv]; simpa using hj
  have hnews2 : ∀ j u, (encId x)[j]? = some u → w.cell? ((⟨vb, 0, none⟩ : Addr).add j) = some u := fun j u hj => by rw [Addr.add_lit, Nat.zero_add]; exact hnews j u hj
  have hlen : (l ++ [x]).length = l.length + 1 := by simp
  have hce : cellsI (l ++ [x]) = cellsI l ++ encId x := cellsI_snoc l x
  have fin : ∀ g cap w', w'.ownsRow base 30 2 (.slice (some ⟨g, 0, none⟩) (l.length + 1) cap) (l.length + 1) (cellsI l ++ encId x) → w.grownBy w' v.ownBlock → (∃ v', Ending.returned (.slice (some ⟨g, 0, none⟩) (l.length + 1) cap) = .returned v' ∧ OwnI w' base v' (l ++ [x])) ∧ Below base w w' := by
    intro g cap w' h1 h2
    refine ⟨⟨_, rfl, ?_⟩, (Below.refl base w).grown h2 hbase (fun j hj => (hlo j hj).1)⟩
    show World.ownsRow _ _ _ _ _ (l ++ [x]).length (cellsI (l ++ [x]))
    rw [hlen, hce]; exact h1
  have hE1 : ∀ u ∈ encId x, u.oneCell' = true := fun u hu => by simp [encId] at hu; rcases hu with rfl | rfl <;> rfl
  have hEl : (encId x).length = 1 * 2 := rfl
  generalize cellsI l = C at *
  generalize hC2 : cellsI (l ++ [x]) = C2 at *
  generalize encId x = E at *
  generalize hn : l.length = n at *
  clear hce hlen hC2 hv
  have hA := hown.2
  rcases hA with ⟨rfl, rfl⟩ | ⟨g, cap, cur, rfl, hbg, hg, hnc, hcm, hcs, htk⟩
  · go_enter Tryd.func20, Tryd.ntmps20
    go_wp2_with (at_builtin; refine wpList_append_lies _ rfl _ _ _ rfl base 30 i0 (.agg #[.int .i64 0, .int .i64 0]) 2 16 Tryd.underlying22 hi.out hi0 hi1 hi2 rfl (by omega) _ _ _ (by rfl) hown ⟨vb, 0, none⟩ 1 1 E (by rfl) hEl ?_ ?_ (by omega) ?_ ?_ ?_ w.heap.size ?_ ?_)
    all_goals first | exact hnews | exact hnews2 | exact hE1 | exact hbase | rfl | (unfold maxLen; omega) | omega | (intro g cap w1 hown1 hgrow hat hlt1; go_wp2_with fail; go_ret; exact fin _ _ _ hown1 hgrow)
  · clear hg hcs htk
    have hc63 : cap ≤ 9223372036854775807 := by unfold maxLen at hcm; omega
    by_cases hcn : cap = n
    · subst hcn
      go_enter Tryd.func20, Tryd.ntmps20
      go_wp2_with (at_builtin; refine wpList_append_lies _ rfl _ _ _ rfl base 30 i0 (.agg #[.int .i64 0, .int .i64 0]) 2 16 Tryd.underlying22 hi.out hi0 hi1 hi2 rfl (by omega) _ _ _ (by rfl) hown ⟨vb, 0, none⟩ 1 1 E (by rfl) hEl ?_ ?_ (by omega) ?_ ?_ ?_ w.heap.size ?_ ?_)
      all_goals first | exact hnews | exact hnews2 | exact hE1 | exact hbase | rfl | (unfold maxLen; omega) | omega | (intro g cap w1 hown1 hgrow hat hlt1; go_wp2_with fail; go_ret; exact fin _ _ _ hown1 hgrow)
    · go_enter Tryd.func20, Tryd.ntmps20
      go_wp2_with (at_builtin; refine wpList_append_lies _ rfl _ _ _ rfl base 30 i0 (.agg #[.int .i64 0, .int .i64 0]) 2 16 Tryd.underlying22 hi.out hi0 hi1 hi2 rfl (by omega) _ _ _ (by rfl) hown ⟨vb, 0, none⟩ 1 1 E (by rfl) hEl ?_ ?_ (by omega) ?_ ?_ ?_ w.heap.size ?_ ?_)
      all_goals first | exact hnews | exact hnews2 | exact hE1 | exact hbase | rfl | (unfold maxLen; omega) | omega | (intro g cap w1 hown1 hgrow hat hlt1; go_wp2_with fail; go_ret; exact fin _ _ _ hown1 hgrow)

theorem insertC (base : Nat) (v : Value) (l : List Id) (i : Nat) (x : Id) (vb : Nat) (w : World) (hi : i ≤ l.length) (hl : l.length < 1000) (hbase : base ≤ w.heap.size) (hown : OwnI w base v l) (hvb : v.ownBlock ≠ some vb) (hv : w.heap[vb]? = some (.cells (encId x).toArray 30 (0, 0))) :
    Calls Tryd.prog 20 #[v, .int .i64 i, .slice (some ⟨vb, 0, none⟩) 1 1] w fun e w' => (∃ v', e = .returned v' ∧ OwnI w' base v' (insAt l i x)) ∧ Below base w w' := by
  by_cases hin : i = l.length
  · subst hin
    rw [insAt_end]
    exact insertEnd base v l x vb w hl hbase hown hv
  have hi' : i < l.length := by omega
  have hlo := hown.lt
  rcases hown.2 with ⟨_, h0⟩ | ⟨g, cap, cur, rfl, hbg, hg, hnc, hcm, hcs, htk⟩
  · omega
  by_cases hroom : l.length + 1 ≤ cap
  · refine (insertShift g cap i vb l x cur w hi' (by omega) hroom (by unfold maxLen at hcm; omega) (fun e => hvb (by rw [e]; rfl)) hg hcs htk hv).mono ?_
    rintro e w' ⟨rfl, hgr, cur', h1, h2, h3⟩
    refine ⟨⟨_, rfl, ?_⟩, (Below.refl base w).grown hgr hbase (fun j hj => by cases hj; exact hbg)⟩
    have e1 := insAt_len l i x
    refine ⟨by rw [cellsI_len], .inr ⟨g, cap, cur', by rw [e1], hbg, h1, by rw [e1]; exact hroom, hcm, h2, by rw [e1]; exact h3⟩⟩
  · refine (insertGrow g cap i vb l x cur w hi' (by omega) hnc (by omega) hg htk hv).mono ?_
    rintro e w' ⟨hgr, G, cur', rfl, hG1, hG2, h1, h2, h3⟩
    refine ⟨⟨_, rfl, ?_⟩, (Below.refl base w).grown hgr hbase (fun j hj => by cases hj)⟩
    have e1 := insAt_len l i x
    refine ⟨by rw [cellsI_len], .inr ⟨w.heap.size, G, cur', by rw [e1], hbase, h1, by rw [e1]; exact hG1, hG2, h2, by rw [e1]; exact h3⟩⟩
end Go.Proofs.YtacoeahipklibaaDoor
